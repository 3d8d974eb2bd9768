/- path.part: what it answers. path.Clean: what it answers. path.Clean: the walk. Paths put right, in words that the kernel can reckon with. strings.Trim at a set of bytes; octet.isPlain, isToken, Token, Trim. conduitlaw11.same, known: true. -/
import Derived.Test.YthjnmcciejfpcaaGreatDoorMB
import Derived.Test.YthjnmcciejfpcaaGreatDoorSeg
import Derived.Lib.Join
import Derived.OwnWalk
import Derived.KernelRfl
import Derived.Shelf.Strings.SlTrimAscii
import Derived.Deep.QuietTactic
import Derived.BigQuiet
namespace Go.Proofs.YthjnmcciejfpcaaGreatDoor
set_option linter.unusedVariables false
set_option linter.unusedSimpArgs false
open Go.RowKit

def okB (c : UInt8) : Bool := !(c.toNat == 47) && !(c.toNat == 127) && decide (32 ≤ c.toNat)
def partS (s : ByteArray) : Option ByteArray := match unescS s with
  | some p => if p.all okB then some (mk p) else none
  | none => none
def partR : Option ByteArray → Value
  | some p => .tuple #[.string p, .nilIface]
  | none => .tuple #[.string ⟨#[]⟩, .iface 31 (.int .i64 10)]
theorem unescS_len {s : ByteArray} {p : List UInt8} (h : unescS s = some p) : p.length ≤ s.size := by
  have := unescA_len (L s) [] p h
  simpa [L_len] using this
theorem partS_size {s p : ByteArray} (h : partS s = some p) : p.size ≤ s.size := by
  unfold partS at h
  split at h
  · rename_i q hq
    split at h
    · injection h with h; subst h; rw [mk_size]; exact unescS_len hq
    · cases h
  · cases h
set_option maxRecDepth 100000 in
set_option maxHeartbeats 2000000 in
theorem path_part (s : ByteArray) (w : World) (hs : s.size ≤ 1000000000) :
    Calls Tryz.prog 76 #[.string s] w fun e w' => e = .returned (partR (partS s)) ∧ Below w.heap.size w w' := by
  have HC := Lib.hid (oct_Unescape s w hs)
  cases hu : unescS s with
  | none =>
    have he : partS s = none := by unfold partS; rw [hu]
    rw [he]
    rw [hu] at HC
    clear he hu
    go_enter Tryz.func76, Tryz.ntmps76
    go_wp2_with fail
    refine HC.out.mono ?_
    rintro e w1 ⟨rfl, hb1⟩
    unfold unescR
    go_wp2_with fail
    refine (is_errno 10 10 _).mono ?_
    rintro e w2 ⟨rfl, rfl⟩
    go_wp2
    go_ret2
    exact ⟨rfl, hb1⟩
  | some p =>
    have he : partS s = if p.all okB then some (mk p) else none := by unfold partS; rw [hu]
    have hpl := unescS_len hu
    rw [hu] at HC
    obtain ⟨x, hx⟩ : ∃ x, mk p = x := ⟨_, rfl⟩
    have hxl : L x = p := by rw [← hx, L_mk]
    have hxs : p.length = x.size := by rw [← hx, mk_size]
    have hx9 : x.size ≤ 9223372036854775807 := by omega
    rw [hx] at he
    have hur : unescR (some p) = .tuple #[.string x, .nilIface] := by unfold unescR; simp only [hx]
    rw [hur] at HC
    have HE := Lib.hid he; have HX := Lib.hid hxl; have HS := Lib.hid hxs
    clear he hu hx hxl hxs hur hpl hs
    go_enter Tryz.func76, Tryz.ntmps76
    go_wp2_with fail
    refine HC.out.mono ?_
    rintro e w1 ⟨rfl, hb1⟩
    go_wp2_with fail
    refine (is_nil 10 _).mono ?_
    rintro e w2 ⟨rfl, rfl⟩
    go_wp2
    go_loop [19] (fun i => ∃ k : Nat, k ≤ x.size ∧ i = .int .i64 k ∧ (p.take k).all okB = true) (fun i => x.size - (intOf i).toNat)
    case atStart => exact ⟨0, Nat.zero_le _, rfl, rfl⟩
    case round =>
      obtain ⟨k, hk, rfl, hall⟩ := hrel
      by_cases hlt : k < x.size
      · have hkl : k < p.length := by have := HS.out; omega
        have hat : p[k] = x[k] := by have := HX.out; subst this; rfl
        obtain ⟨c, hc⟩ : ∃ c, x[k] = c := ⟨_, rfl⟩
        rw [hc] at hat
        have HA := Lib.hid hall; have HAT := Lib.hid hat
        clear hall hat
        by_cases b1 : c.toNat = 47
        · have g1 : ((c.toNat : Int) == 47) = true := by simp; omega
          have hno : p.all okB = false := all_drop hkl HA.out (by rw [HAT.out]; unfold okB; simp [b1])
          have HNO := Lib.hid hno; clear hno b1
          go_wp2
          go_ret2
          exact ⟨by rw [HE.out, HNO.out]; rfl, hb1⟩
        · have g1 : ((c.toNat : Int) == 47) = false := by simp; omega
          by_cases b2 : c.toNat = 127
          · have g2 : ((c.toNat : Int) == 127) = true := by simp; omega
            have hno : p.all okB = false := all_drop hkl HA.out (by rw [HAT.out]; unfold okB; simp [b2])
            have HNO := Lib.hid hno; clear hno b1 b2
            go_wp2
            go_ret2
            exact ⟨by rw [HE.out, HNO.out]; rfl, hb1⟩
          · have g2 : ((c.toNat : Int) == 127) = false := by simp; omega
            by_cases b3 : c.toNat < 32
            · have g3 : (c.toNat : Int) < 32 := by omega
              have hno : p.all okB = false := all_drop hkl HA.out (by rw [HAT.out]; unfold okB; simp; omega)
              have HNO := Lib.hid hno; clear hno b1 b2 b3
              go_wp2
              go_ret2
              exact ⟨by rw [HE.out, HNO.out]; rfl, hb1⟩
            · have g3 : ¬ (c.toNat : Int) < 32 := by omega
              have hok : okB c = true := by unfold okB; simp; omega
              have HOK := Lib.hid hok; clear hok b1 b2 b3
              go_wp2
              go_round
              case measure => exact meas hlt .i64 .i64
              case rel => exact ⟨k + 1, by omega, by go_num, all_succ hkl HA.out (by rw [HAT.out]; exact HOK.out)⟩
      · have e : p.take k = p := List.take_of_length_le (by have := HS.out; omega)
        rw [e] at hall
        have HA := Lib.hid hall; clear hall e
        go_wp2
        go_ret2
        exact ⟨by rw [HE.out, HA.out]; rfl, hb1⟩
end Go.Proofs.YthjnmcciejfpcaaGreatDoor

namespace Go.Proofs.YthjnmcciejfpcaaGreatDoor
set_option linter.unusedVariables false
set_option linter.unusedSimpArgs false
open Go.RowKit

def dotB (p : ByteArray) : Bool := p.toList.isEmpty || eqB p ⟨#[46]⟩ || eqB p ⟨#[46, 46]⟩
def cleanStep (st : List ByteArray) (p : ByteArray) : Option (List ByteArray) :=
  if p.toList.isEmpty || eqB p ⟨#[46]⟩ then some st else if eqB p ⟨#[46, 46]⟩ then (if st.length = 0 then none else some (st.take (st.length - 1))) else some (st ++ [p])
def cleanGo : List ByteArray → List ByteArray → ByteArray → Option (List ByteArray × ByteArray)
  | [], st, last => some (st, last)
  | s :: r, st, _ => match partS s with
    | none => none
    | some p => match cleanStep st p with
      | none => none
      | some st' => cleanGo r st' p
def joinB (l : List ByteArray) : ByteArray := ⟨(Lib.join (l.map (·.data.toList)) [47]).toArray⟩
def cleanOut (r : List ByteArray × ByteArray) : ByteArray :=
  if decide (0 < r.1.length) && dotB r.2 then ⟨#[47]⟩ ++ joinB r.1 ++ ⟨#[47]⟩ else ⟨#[47]⟩ ++ joinB r.1
def cleanS (s : ByteArray) : Option ByteArray :=
  if Lib.hasPrefix (L s) [47] then (cleanGo (cutB (s.extract 1 s.size) 47) [] ⟨#[]⟩).map cleanOut else none
theorem own_cut {w : World} {base e m n c : Nat} {A : Option Addr} {l : List ByteArray} (h : w.ownsRow base e 1 (.slice A n c) n (scells l)) (hn : 0 < n) (hm : m ≤ n) : w.ownsRow base e 1 (.slice A m c) m (scells (l.take m)) := by
  have hl : l.length = n := by have := h.1; rw [scells_len] at this; omega
  rcases h.2 with ⟨_, h0⟩ | ⟨g, cap, cur, hv, hb, hg, hnc, hcm, hcs, htake⟩
  · omega
  · injection hv with h1 h2 h3
    subst h1 h3
    refine ⟨by rw [scells_len, List.length_take]; omega, .inr ⟨g, c, cur, rfl, hb, hg, by omega, hcm, hcs, ?_⟩⟩
    have : scells (l.take m) = (scells l).take m := by simp [scells, List.map_take]
    rw [this, ← htake, List.take_take]
    congr 1; omega
theorem joinTail_len (M : Nat) : ∀ (l : List (List UInt8)), (∀ x ∈ l, x.length ≤ M) → (Lib.joinTail [47] l).length ≤ l.length * (M + 1)
  | [], _ => by simp [Lib.joinTail]
  | x :: r, h => by
    have h1 := h x (by simp)
    have h2 := joinTail_len M r (fun z hz => h z (by simp [hz]))
    have e : (Lib.joinTail [47] (x :: r)).length = 1 + x.length + (Lib.joinTail [47] r).length := by simp [Lib.joinTail]; omega
    have e2 : (x :: r).length * (M + 1) = r.length * (M + 1) + (M + 1) := by rw [List.length_cons, Nat.succ_mul]
    omega
theorem join_len (M : Nat) (l : List (List UInt8)) (h : ∀ x ∈ l, x.length ≤ M) : (Lib.join l [47]).length ≤ l.length * (M + 1) := by
  cases l with
  | nil => simp [Lib.join_nil]
  | cons x r =>
    have h1 := h x (by simp)
    have h2 := joinTail_len M r (fun z hz => h z (by simp [hz]))
    have e2 : (x :: r).length * (M + 1) = r.length * (M + 1) + (M + 1) := by rw [List.length_cons, Nat.succ_mul]
    rw [Lib.join_cons, List.length_append]
    omega
theorem joinB_size (M n : Nat) (l : List ByteArray) (h : ∀ x ∈ l, x.size ≤ M) (hn : l.length ≤ n) (hM : n * (M + 1) ≤ 140737488355328) : (Lib.join (l.map (·.data.toList)) [47]).length ≤ 140737488355328 := by
  have h1 := join_len M (l.map (·.data.toList)) (fun x hx => by
    obtain ⟨y, hy, rfl⟩ := List.mem_map.1 hx
    exact h y hy)
  rw [List.length_map] at h1
  exact Nat.le_trans h1 (Nat.le_trans (Nat.mul_le_mul_right _ hn) hM)
theorem Strs.some_ {w : World} {A : Option Addr} {l : List ByteArray} (h : Strs w A l) (h0 : 0 < l.length) : ∃ b off, A = some ⟨b, off, none⟩ ∧ b < w.heap.size ∧ ∀ (j : Nat) x, l[j]? = some x → w.cell? ⟨b, off + j, none⟩ = some (.string x) := by
  obtain ⟨b, off, e, hb, hc⟩ := h h0
  refine ⟨b, off, e, hb, fun j x hx => ?_⟩
  obtain ⟨hj, rfl⟩ := List.getElem?_eq_some_iff.1 hx
  exact hc j hj
theorem lib_Join (A : Option Addr) (c n : Nat) (l : List ByteArray) (w : World) (hn : l.length = n) (hA : Strs w A l) (hc : n ≤ c) (hN : n ≤ 140737488355328) (hlen : (Lib.join (l.map (·.data.toList)) [47]).length ≤ 140737488355328) :
    Calls Tryz.prog 77 #[.slice A n c, .string ⟨#[47]⟩] w fun e w' => e = .returned (.string (joinB l)) ∧ Below w.heap.size w w' := by
  subst hn
  rcases Nat.eq_zero_or_pos l.length with h0 | h0
  · have : l = [] := List.eq_nil_of_length_eq_zero h0
    subst this
    refine (Tryz.strings_Join_none A c ⟨#[47]⟩ w).mono ?_
    rintro e w' ⟨rfl, rfl⟩
    exact ⟨rfl, fr_refl _⟩
  · obtain ⟨b, off, rfl, hb, hcell⟩ := hA.some_ h0
    exact Tryz.strings_Join b off c l ⟨#[47]⟩ w hcell hb hN hc hlen
theorem str_info : (Tryz.prog.info? 9).map (fun i => (i.zero, i.size, i.bytes)) = some (some (.string ⟨#[]⟩), 1, 16) := by kernel_rfl
def cleanR : Option ByteArray → Value
  | some p => .tuple #[.string p, .nilIface]
  | none => .tuple #[.string ⟨#[]⟩, .iface 31 (.int .i64 10)]
theorem cutB_size {s x : ByteArray} {c : UInt8} (h : x ∈ cutB s c) : x.size ≤ s.size := by
  unfold cutB at h
  obtain ⟨y, hy, rfl⟩ := List.mem_map.1 h
  have h1 := cutC_sum c (L s)
  have h2 : y.length ≤ ((cutC c (L s)).map List.length).sum := by
    obtain ⟨a, b, e⟩ := List.append_of_mem hy
    rw [e]; simp; omega
  have h3 : 0 < (cutC c (L s)).length := List.length_pos_iff.2 (cutC_ne _ _)
  rw [mk_size]
  have : (L s).length = s.size := rfl
  omega
end Go.Proofs.YthjnmcciejfpcaaGreatDoor

namespace Go.Proofs.YthjnmcciejfpcaaGreatDoor
set_option linter.unusedVariables false
set_option linter.unusedSimpArgs false
open Go.RowKit

theorem eq_dot (p : ByteArray) : eqB p ⟨#[46]⟩ = (p.toList == [46]) := by unfold eqB; rw [show (⟨#[46]⟩ : ByteArray).toList = [46] by rw [toList_L]]
theorem eq_dots (p : ByteArray) : eqB p ⟨#[46, 46]⟩ = (p.toList == [46, 46]) := by unfold eqB; rw [show (⟨#[46, 46]⟩ : ByteArray).toList = [46, 46] by rw [toList_L]]
theorem cleanGo_bad {s : ByteArray} {r st : List ByteArray} {last : ByteArray} (h : partS s = none) : cleanGo (s :: r) st last = none := by unfold cleanGo; rw [h]
theorem cleanGo_no {s p : ByteArray} {r st : List ByteArray} {last : ByteArray} (h : partS s = some p) (h2 : cleanStep st p = none) : cleanGo (s :: r) st last = none := by unfold cleanGo; rw [h]; simp only [h2]
theorem cleanGo_yes {s p : ByteArray} {r st st' : List ByteArray} {last : ByteArray} (h : partS s = some p) (h2 : cleanStep st p = some st') : cleanGo (s :: r) st last = cleanGo r st' p := by
  conv => lhs; unfold cleanGo
  rw [h]; simp only [h2]

set_option maxRecDepth 100000 in
set_option maxHeartbeats 4000000 in
theorem path_Clean (s : ByteArray) (w : World) (hm : MaxL w) (hs : s.size ≤ 8388608) :
    Calls Tryz.prog 51 #[.string s] w fun e w' => e = .returned (cleanR (cleanS s)) ∧ Below w.heap.size w w' := by
  obtain ⟨i0, hi, hz0, hz1, hz2⟩ := info_parts str_info
  have HM := Lib.hid hm; clear hm
  cases hp : Lib.hasPrefix (L s) [47]
  · have he : cleanS s = none := by unfold cleanS; rw [hp]; rfl
    rw [he]
    have HP := Lib.hid hp
    clear he hs hp
    go_enter Tryz.func51, Tryz.ntmps51
    go_wp2_with fail
    refine (lib_HasPrefix s ⟨#[47]⟩ _).mono ?_
    rintro e w1 ⟨rfl, rfl⟩
    rw [show Lib.hasPrefix (L s) (L ⟨#[47]⟩) = false from HP.out]
    go_wp2
    go_ret2
    exact ⟨rfl, fr_refl _⟩
  · have he : cleanS s = (cleanGo (cutB (s.extract 1 s.size) 47) [] ⟨#[]⟩).map cleanOut := by unfold cleanS; rw [hp]; rfl
    have hs1 : 1 ≤ s.size := by
      have hl : (L s).length = s.size := rfl
      cases hq : L s with
      | nil => rw [hq] at hp; simp [Lib.hasPrefix] at hp
      | cons a b => rw [hq] at hl; simp at hl; omega
    have hxz : (s.extract 1 s.size).size ≤ s.size := by rw [ByteArray.size_extract]; omega
    have hlen := cutB_len (s.extract 1 s.size) 47
    have hmem : ∀ x ∈ cutB (s.extract 1 s.size) 47, x.size ≤ 8388608 := fun x hx => Nat.le_trans (cutB_size hx) (by omega)
    have hspl := fun w hm => lib_Split (s.extract 1 s.size) 47 w hm (by omega)
    obtain ⟨xs, hxs⟩ : ∃ xs, cutB (s.extract 1 s.size) 47 = xs := ⟨_, rfl⟩
    rw [hxs] at he hmem hspl hlen
    obtain ⟨n, hn⟩ : ∃ n, xs.length = n := ⟨_, rfl⟩
    have hspl2 : ∀ (w : World) (_ : MaxL w), Calls Tryz.prog 73 #[.string (s.extract 1 s.size), .string ⟨#[47]⟩] w fun e w' => e = .returned (.slice (some ⟨w.heap.size, 0, none⟩) n n) ∧ w' = w.alloc (.cells (xs.map Value.string).toArray 9) := by rw [← hn]; exact hspl
    have hn9 : n ≤ 8388609 := by omega
    have HS := Lib.hid hspl2; have HE := Lib.hid he; have HMEM := Lib.hid hmem; have HN := Lib.hid hn; have HN9 := Lib.hid hn9; have HP := Lib.hid hp
    have hn63 : n ≤ 9223372036854775807 := by omega
    clear hspl hspl2 he hmem hn hn9 hp hxs hlen hxz hs
    go_enter Tryz.func51, Tryz.ntmps51
    go_wp2_with fail
    refine (lib_HasPrefix s ⟨#[47]⟩ _).mono ?_
    rintro e w1 ⟨rfl, rfl⟩
    rw [show Lib.hasPrefix (L s) (L ⟨#[47]⟩) = true from HP.out]
    go_wp2_with fail
    refine (HS.out _ HM.out).mono ?_
    rintro e w1 ⟨rfl, hw1⟩
    have hb1 : Below w.heap.size w w1 := by rw [hw1]; exact fr_alloc (fr_refl _) _
    have hst : Strs w1 (some ⟨w.heap.size, 0, none⟩) xs := by rw [hw1]; exact Strs.new w xs 9
    have HST := Lib.hid hst
    clear hw1 hst
    go_wp2
    go_loopw [4, 5, 19] (fun v lt i wr => ∃ (k : Nat) (st : List ByteArray) (last : ByteArray), k ≤ n ∧ i = .int .i64 k ∧ lt = .string last ∧ Below w1.heap.size w1 wr ∧ wr.ownsRow w1.heap.size 9 1 v st.length (scells st) ∧
      cleanGo xs [] ⟨#[]⟩ = cleanGo (xs.drop k) st last ∧ (∀ x ∈ st, x.size ≤ 8388608) ∧ st.length ≤ k) (fun _ _ i _ => n - (intOf i).toNat)
    case atStart => exact ⟨0, [], ⟨#[]⟩, Nat.zero_le _, rfl, rfl, Below.refl _ _, World.ownsRow_nil _ _ _ _, by simp, by simp, Nat.zero_le _⟩
    case round =>
      obtain ⟨k, st, last, hk, rfl, rfl, hb, hown, hinv, hsz, hsl⟩ := hrel
      by_cases hlt : k < n
      · have hkx : k < xs.length := by have := HN.out; omega
        obtain ⟨b0, o0, e0, hbl, hcell⟩ := HST.out.at_ hkx
        simp only [Option.some.injEq, Addr.mk.injEq, and_true] at e0
        obtain ⟨rfl, rfl⟩ := e0
        have hdr : xs.drop k = xs[k] :: xs.drop (k + 1) := List.drop_eq_getElem_cons hkx
        have hxm := HMEM.out xs[k] (List.getElem_mem hkx)
        obtain ⟨x, hx⟩ : ∃ x, xs[k] = x := ⟨_, rfl⟩
        rw [hx] at hdr hxm hcell
        rw [hdr] at hinv
        have hcell2 := fr_cell hb hcell
        rw [Nat.zero_add] at hcell2
        have hblr := World.block_lt_of_cell? wr _ hcell2
        simp only at hblr
        have HC := Lib.hid (fun W => path_part x W (by omega))
        obtain ⟨o, ho⟩ : ∃ o, partS x = o := ⟨_, rfl⟩
        rw [ho] at HC
        have HO := Lib.hid ho; have HI := Lib.hid hinv; have HB := Lib.hid hb; have HOW := Lib.hid hown; have HSZ := Lib.hid hsz; have HXM := Lib.hid hxm
        clear ho hinv hb hown hsz hxm hdr hx hcell hbl
        go_wp2_with fail
        refine (HC.out _).mono ?_
        rintro e w2 ⟨rfl, hb2⟩
        have hw2 := fr_trans HB.out hb2
        have HOW2 := Lib.hid (own_fr HOW.out hb2)
        have HW2 := Lib.hid hw2
        clear hb2 hw2 hcell2 hblr
        cases o with
        | none =>
          have hnone : cleanS s = none := by rw [HE.out, HI.out, cleanGo_bad HO.out]; rfl
          have HNO := Lib.hid hnone; clear hnone
          unfold partR
          go_wp2_with fail
          go_ret2
          exact ⟨by rw [HNO.out]; rfl, fr_trans hb1 HW2.out⟩
        | some p =>
          have hps := partS_size HO.out
          have hcs : cleanStep st p = if p.toList.isEmpty || p.toList == [46] then some st else if p.toList == [46, 46] then (if st.length = 0 then none else some (st.take (st.length - 1))) else some (st ++ [p]) := by
            unfold cleanStep; rw [eq_dot, eq_dots]
          have HCS := Lib.hid hcs; have HPS := Lib.hid hps
          clear hcs hps
          unfold partR
          cases h1 : p.toList.isEmpty
          · cases h2 : (p.toList == [46])
            · cases h3 : (p.toList == [46, 46])
              · have hst : cleanStep st p = some (st ++ [p]) := by rw [HCS.out, h1, h2, h3]; rfl
                have HNX := Lib.hid (HI.out.trans (cleanGo_yes HO.out hst)); clear hst
                go_wp2_with (first
                  | (at_builtin
                     refine wpList_append_own _ rfl (.tmp 33) (.tmp 35) _ rfl w1.heap.size 9 i0 _ 1 16 Tryz.underlying78 hi hz0 hz1 hz2 rfl (by decide) _ _ _ rfl (HOW2.out.alloc _) ⟨w2.heap.size, 0, none⟩ 1 1 [.string p] rfl rfl (new_cells _ _ _) (scell_one _) (by simp only [maxLen]; have := HN9.out; omega) (by have := HN9.out; omega) (Nat.le_trans HW2.out.size (by simp)) ?_
                     intro v2 w3 hown2 hg2 _))
                go_roundw
                case measure => exact meas hlt .i64 .i64
                case rel =>
                  refine ⟨k + 1, st ++ [p], p, by omega, by go_num, rfl, fr_grown (fr_alloc HW2.out _) hg2 (own_ge HOW2.out), ?_, HNX.out, ?_, by simp; omega⟩
                  · rw [List.length_append, scells_snoc]; exact hown2
                  · intro y hy
                    rcases List.mem_append.1 hy with hy | hy
                    · exact HSZ.out y hy
                    · simp at hy; subst hy; exact Nat.le_trans HPS.out HXM.out
              · by_cases h0 : st.length = 0
                · have hst : cleanStep st p = none := by rw [HCS.out, h1, h2, h3, if_pos h0]; rfl
                  have hnone : cleanS s = none := by rw [HE.out, HI.out, cleanGo_no HO.out hst]; rfl
                  have HNO := Lib.hid hnone; clear hnone hst
                  obtain ⟨A4, c4, rfl, hn4, _, hc4⟩ := Strs.own HOW2.out
                  have h0' : ((st.length : Nat) : Int) = 0 := by omega
                  have HBB := Lib.hid (fr_trans hb1 HW2.out)
                  clear HOW2 h0 hn4
                  go_wp2_with fail
                  go_ret2
                  exact ⟨by rw [HNO.out]; rfl, HBB.out⟩
                · have hst : cleanStep st p = some (st.take (st.length - 1)) := by rw [HCS.out, h1, h2, h3, if_neg h0]; rfl
                  have HNX := Lib.hid (HI.out.trans (cleanGo_yes HO.out hst)); clear hst
                  obtain ⟨A4, c4, rfl, hn4, _, hc4⟩ := Strs.own HOW2.out
                  have hcut := own_cut HOW2.out (m := st.length - 1) (by omega) (by omega)
                  obtain ⟨m, hm⟩ : ∃ m, st.length = m + 1 := ⟨st.length - 1, by omega⟩
                  have HCUT := Lib.hid hcut
                  have HNL := Lib.hid hm
                  clear hcut HOW2 h0 hn4
                  rw [hm] at hc4 ⊢
                  have hsl' : m + 1 ≤ k := by omega
                  clear hm hsl
                  go_wp2_with fail
                  go_roundw
                  case measure => exact meas hlt .i64 .i64
                  case rel =>
                    refine ⟨k + 1, st.take (st.length - 1), p, by omega, by go_num, rfl, HW2.out, ?_, HNX.out, fun y hy => HSZ.out y (List.mem_of_mem_take hy), by rw [List.length_take]; have := HNL.out; omega⟩
                    have h := HCUT.out
                    rw [HNL.out] at h
                    rw [List.length_take, HNL.out, show min (m + 1 - 1) (m + 1) = m by omega]
                    rw [show m + 1 - 1 = m by omega] at h
                    exact h
            · have hst : cleanStep st p = some st := by rw [HCS.out, h1, h2]; rfl
              have HNX := Lib.hid (HI.out.trans (cleanGo_yes HO.out hst)); clear hst
              go_wp2_with fail
              go_roundw
              case measure => exact meas hlt .i64 .i64
              case rel => exact ⟨k + 1, st, p, by omega, by go_num, rfl, HW2.out, HOW2.out, HNX.out, HSZ.out, by omega⟩
          · have hst : cleanStep st p = some st := by rw [HCS.out, h1]; rfl
            have HNX := Lib.hid (HI.out.trans (cleanGo_yes HO.out hst)); clear hst
            go_wp2_with fail
            go_roundw
            case measure => exact meas hlt .i64 .i64
            case rel => exact ⟨k + 1, st, p, by omega, by go_num, rfl, HW2.out, HOW2.out, HNX.out, HSZ.out, by omega⟩
      · obtain rfl : k = n := by omega
        have hdn : xs.drop k = [] := List.drop_of_length_le (by have := HN.out; omega)
        rw [hdn] at hinv
        have hend : cleanS s = some (cleanOut (st, last)) := by rw [HE.out, hinv]; rfl
        obtain ⟨A4, c4, rfl, hn4, hstr, hc4⟩ := Strs.own hown
        have hj := joinB_size 8388608 8388609 st hsz (by have := HN9.out; omega) (by decide)
        have HJ := Lib.hid (fun (W : World) (h : Strs W A4 st) => lib_Join A4 c4 st.length st W rfl h (by omega) (by have := HN9.out; omega) hj)
        obtain ⟨jn, hjn⟩ : ∃ jn, joinB st = jn := ⟨_, rfl⟩
        have hjz : jn.size ≤ 140737488355328 := by rw [← hjn]; unfold joinB; show (List.toArray _).size ≤ _; simpa using hj
        rw [hjn] at HJ
        have hco : cleanOut (st, last) = if decide (0 < st.length) && dotB last then ⟨#[47]⟩ ++ jn ++ ⟨#[47]⟩ else ⟨#[47]⟩ ++ jn := by unfold cleanOut; rw [hjn]
        have hdb : dotB last = (last.toList.isEmpty || (last.toList == [46]) || (last.toList == [46, 46])) := by unfold dotB; rw [eq_dot, eq_dots]
        have HEND := Lib.hid hend; have HCO := Lib.hid hco; have HDB := Lib.hid hdb; have HSTR := Lib.hid hstr; have HBB := Lib.hid (fr_trans hb1 hb)
        have hjz9 : ¬ 9223372036854775807 < 1 + jn.size := by omega
        have hjz8 : ¬ 9223372036854775807 < 1 + jn.size + 1 := by omega
        have hl63 : st.length ≤ 9223372036854775807 := by have := HN9.out; omega
        clear hend hco hdb hstr hb hown hn4 hinv hdn hj hjn hjz hsz
        cases h0 : decide (0 < st.length)
        · have h0' : ¬ (0 : Int) < (st.length : Int) := by have := of_decide_eq_false h0; omega
          have HCO2 : RowKit.Hid (cleanOut (st, last) = ⟨#[47]⟩ ++ jn) := by have := HCO.out; rw [h0] at this; exact this
          clear h0 HCO
          go_wp2_with fail
          refine (HJ.out _ HSTR.out).mono ?_
          rintro e w3 ⟨rfl, hb3⟩
          go_wp2_with fail
          go_ret2
          exact ⟨by rw [HEND.out, HCO2.out]; rfl, fr_trans HBB.out hb3⟩
        · have h0' : (0 : Int) < (st.length : Int) := by have := of_decide_eq_true h0; omega
          cases h1 : last.toList.isEmpty <;> cases h2 : (last.toList == [46]) <;> cases h3 : (last.toList == [46, 46])
          all_goals
            have hco2 := HCO.out
            rw [h0, HDB.out, h1, h2, h3] at hco2
            simp only [Bool.true_and, Bool.or_true, Bool.true_or, Bool.or_false, Bool.false_or, Bool.false_eq_true, if_true, if_false] at hco2
            have HCO2 := Lib.hid hco2
            clear h0 HCO hco2
            go_wp2_with fail
            refine (HJ.out _ HSTR.out).mono ?_
            rintro e w3 ⟨rfl, hb3⟩
            go_wp2_with fail
            go_ret2
            exact ⟨by rw [HEND.out]; show _ = Ending.returned (.tuple #[.string (cleanOut (st, last)), .nilIface]); rw [HCO2.out]; rfl, fr_trans HBB.out hb3⟩
end Go.Proofs.YthjnmcciejfpcaaGreatDoor

namespace Go.Proofs.YthjnmcciejfpcaaGreatDoor
set_option linter.unusedVariables false
set_option linter.unusedSimpArgs false
open Go.RowKit

def xtB (p : ByteArray) (i j : Nat) : ByteArray := mk (((L p).take j).drop i)
theorem xtB_eq (p : ByteArray) (i j : Nat) : p.extract i j = xtB p i j := L_inj (by rw [L_ext]; unfold xtB; rw [L_mk])
def emptyE (p : ByteArray) : Bool := (L p).isEmpty
def cleanStepE (st : List ByteArray) (p : ByteArray) : Option (List ByteArray) :=
  if emptyE p || L p == [46] then some st else if L p == [46, 46] then (if st.length = 0 then none else some (st.take (st.length - 1))) else some (st ++ [p])
theorem cleanStepE_eq : cleanStep = cleanStepE := by
  funext st p
  unfold cleanStep cleanStepE emptyE
  rw [eq_dot, eq_dots, toList_L]
def cleanGoE : List ByteArray → List ByteArray → ByteArray → Option (List ByteArray × ByteArray)
  | [], st, last => some (st, last)
  | s :: r, st, _ => match partS s with
    | none => none
    | some p => match cleanStepE st p with
      | none => none
      | some st' => cleanGoE r st' p
theorem cleanGoE_eq : ∀ l st last, cleanGo l st last = cleanGoE l st last
  | [], _, _ => rfl
  | s :: r, st, last => by
    unfold cleanGo cleanGoE
    rw [cleanStepE_eq]
    cases partS s with
    | none => rfl
    | some p =>
      simp only []
      cases cleanStepE st p with
      | none => rfl
      | some st' => exact cleanGoE_eq r st' p
def cleanOutE (r : List ByteArray × ByteArray) : List UInt8 :=
  if Nat.blt 0 r.1.length && (emptyE r.2 || L r.2 == [46] || L r.2 == [46, 46]) then 47 :: (Lib.join (r.1.map L) [47] ++ [47]) else 47 :: Lib.join (r.1.map L) [47]
theorem cleanOutE_eq (r : List ByteArray × ByteArray) : cleanOut r = mk (cleanOutE r) := by
  have hj : joinB r.1 = mk (Lib.join (r.1.map L) [47]) := rfl
  have hd : dotB r.2 = (emptyE r.2 || L r.2 == [46] || L r.2 == [46, 46]) := by unfold dotB emptyE; rw [eq_dot, eq_dots, toList_L]
  have hb : decide (0 < r.1.length) = Nat.blt 0 r.1.length := by rw [Bool.eq_iff_iff]; simp [Nat.blt_eq]
  unfold cleanOut cleanOutE
  rw [hj, hd, hb]
  split
  · apply L_inj; simp [L_app, L_mk]
  · apply L_inj; simp [L_app, L_mk]
def cleanE (s : ByteArray) : Option ByteArray :=
  if Lib.hasPrefix (L s) [47] then (cleanGoE ((cutC 47 ((L s).drop 1)).map mk) [] ⟨#[]⟩).map (fun r => mk (cleanOutE r)) else none
theorem cleanE_eq (s : ByteArray) : cleanS s = cleanE s := by
  unfold cleanS cleanE cutB
  rw [L_end, cleanGoE_eq]
  have : cleanOut = fun r => mk (cleanOutE r) := funext cleanOutE_eq
  rw [this]
def segsE' (s : ByteArray) : List ByteArray := (segsL (L s)).map mk
theorem segsE'_eq (s : ByteArray) : segs s = segsE' s := segs_eq s
theorem begS_E (p q : ByteArray) : begS p q = (decide ((segsE' q).length ≤ (segsE' p).length) && decide ((segsE' p).take (segsE' q).length = segsE' q)) := by unfold begS; rw [segsE'_eq, segsE'_eq]
theorem pk1 : cleanS ⟨#[47, 97, 47, 46, 46, 47, 98, 47, 46, 47]⟩ = some ⟨#[47, 98, 47]⟩ := by rw [cleanE_eq]; kernel_rfl
theorem pk2 : cleanS ⟨#[47, 47, 120, 47, 47, 37, 52, 49]⟩ = some ⟨#[47, 120, 47, 65]⟩ := by rw [cleanE_eq]; kernel_rfl
theorem pk3 : cleanS ⟨#[47, 46, 46]⟩ = none := by rw [cleanE_eq]; kernel_rfl
theorem pk4 : cleanS ⟨#[47, 97, 37, 50, 102, 98]⟩ = none := by rw [cleanE_eq]; kernel_rfl
theorem pk5 : cleanS ⟨#[47]⟩ = some ⟨#[47]⟩ := by rw [cleanE_eq]; kernel_rfl
theorem pk6 : segs ⟨#[47, 97, 47, 47, 98, 47]⟩ = [⟨#[97]⟩, ⟨#[98]⟩] := by rw [segsE'_eq]; kernel_rfl
theorem pk7 : begS ⟨#[47, 97, 47, 98]⟩ ⟨#[47, 97, 47]⟩ = true := by rw [begS_E]; decide +kernel
theorem pk8 : begS ⟨#[47, 97, 98]⟩ ⟨#[47, 97]⟩ = false := by rw [begS_E]; decide +kernel
end Go.Proofs.YthjnmcciejfpcaaGreatDoor

namespace Go.Proofs.YthjnmcciejfpcaaGreatDoor
set_option linter.unusedVariables false
set_option linter.unusedSimpArgs false
open Go.RowKit

def trimB (s cut : ByteArray) : ByteArray := mk (Lib.trimS (L s) (L cut))
theorem lib_Trim (s cut : ByteArray) (w : World) (hs : s.size ≤ 9223372036854775807) (hc : cut.size < 4294967281) (ha : (L cut).all (fun b => decide (b.toNat < 128)) = true) :
    Calls Tryz.prog 12 #[.string s, .string cut] w fun e w' => e = .returned (.string (trimB s cut)) ∧ Below w.heap.size w w' :=
  Any.strings_Trim_laid Tryz.lays160 (by kernel_rfl) s cut w hs hc (ascii_of_all ha)
theorem dropWhile_len {p : UInt8 → Bool} : ∀ l : List UInt8, (l.dropWhile p).length ≤ l.length
  | [] => Nat.le_refl _
  | c :: l => by
    have := dropWhile_len (p := p) l
    rw [List.dropWhile_cons]
    split <;> simp <;> omega
theorem trimB_size (s cut : ByteArray) : (trimB s cut).size ≤ s.size := by
  unfold trimB Lib.trimS Lib.trimLeftS Lib.trimRightS
  rw [mk_size]
  refine Nat.le_trans (dropWhile_len _) ?_
  rw [List.length_reverse]
  refine Nat.le_trans (dropWhile_len _) ?_
  rw [List.length_reverse]
  exact Nat.le_of_eq (L_len s)
theorem dropWhile_nil {p : UInt8 → Bool} : ∀ l : List UInt8, l.dropWhile p = [] ↔ l.all p = true
  | [] => by simp
  | c :: l => by
    rw [List.dropWhile_cons, List.all_cons]
    cases hp : p c
    · simp
    · simp [dropWhile_nil l]
theorem trimS_nil (l cs : List UInt8) : Lib.trimS l cs = [] ↔ l.all (fun c => cs.contains c) = true := by
  unfold Lib.trimS Lib.trimLeftS Lib.trimRightS
  rw [dropWhile_nil]
  constructor
  · intro h
    have h1 : l.reverse.all (fun c => cs.contains c) = true := by
      have h2 := List.takeWhile_append_dropWhile (p := fun c => cs.contains c) (l := l.reverse)
      rw [← h2, List.all_append, Bool.and_eq_true]
      refine ⟨?_, by rw [List.all_reverse] at h; exact h⟩
      exact List.all_takeWhile
    rw [List.all_reverse] at h1; exact h1
  · intro h
    have h1 : l.reverse.dropWhile (fun c => cs.contains c) = [] := (dropWhile_nil _).2 (by rw [List.all_reverse]; exact h)
    rw [h1]; rfl
theorem trimB_empty (s cut : ByteArray) : (trimB s cut).toList.isEmpty = (L s).all (fun c => (L cut).contains c) := by
  rw [toList_L]
  unfold trimB
  rw [L_mk, Bool.eq_iff_iff, List.isEmpty_iff, trimS_nil]

def isPlainB (c : UInt8) : Bool := ((decide (97 ≤ (c.toNat : Int)) && decide ((c.toNat : Int) ≤ 122)) || (decide (65 ≤ (c.toNat : Int)) && decide ((c.toNat : Int) ≤ 90))) || (decide (48 ≤ (c.toNat : Int)) && decide ((c.toNat : Int) ≤ 57))
theorem oct_isPlain (c : UInt8) (w : World) : Calls Tryz.prog 78 #[.int .u8 (c.toNat : Int)] w fun e w' => e = .returned (.bool (isPlainB c)) ∧ w = w' := by
  go_enter Tryz.func78, Tryz.ntmps78
  go_wp2
  all_goals (go_ret; refine ⟨?_, rfl⟩; first | (simp_all [isPlainB] <;> omega) | (simp [isPlainB]; omega) | (simp_all [isPlainB]; rw [Bool.eq_iff_iff]; simp only [Bool.or_eq_true, Bool.and_eq_true, decide_eq_true_eq]; omega))
def tokL : List UInt8 := [33, 35, 36, 37, 38, 39, 42, 43, 45, 46, 94, 95, 96, 124, 126]
def isTokB (c : UInt8) : Bool := tokL.contains c || isPlainB c
set_option maxHeartbeats 1000000 in
theorem oct_isToken (c : UInt8) (w : World) : Calls Tryz.prog 58 #[.int .u8 (c.toNat : Int)] w fun e w' => e = .returned (.bool (isTokB c)) ∧ w = w' := by
  cases hc : tokL.contains c
  · have he : isTokB c = isPlainB c := by unfold isTokB; rw [hc]; rfl
    have hn : ∀ d : UInt8, d ∈ tokL → ((c.toNat : Int) == (d.toNat : Int)) = false := fun d hd => by
      simp only [beq_eq_false_iff_ne, ne_eq]
      intro h
      have : c = d := UInt8.toNat_inj.1 (by omega)
      rw [this] at hc
      have h2 := List.contains_iff_mem.2 hd
      rw [h2] at hc; cases hc
    have n33 : ((c.toNat : Int) == 33) = false := hn 33 (by decide)
    have n35 : ((c.toNat : Int) == 35) = false := hn 35 (by decide)
    have n36 : ((c.toNat : Int) == 36) = false := hn 36 (by decide)
    have n37 : ((c.toNat : Int) == 37) = false := hn 37 (by decide)
    have n38 : ((c.toNat : Int) == 38) = false := hn 38 (by decide)
    have n39 : ((c.toNat : Int) == 39) = false := hn 39 (by decide)
    have n42 : ((c.toNat : Int) == 42) = false := hn 42 (by decide)
    have n43 : ((c.toNat : Int) == 43) = false := hn 43 (by decide)
    have n45 : ((c.toNat : Int) == 45) = false := hn 45 (by decide)
    have n46 : ((c.toNat : Int) == 46) = false := hn 46 (by decide)
    have n94 : ((c.toNat : Int) == 94) = false := hn 94 (by decide)
    have n95 : ((c.toNat : Int) == 95) = false := hn 95 (by decide)
    have n96 : ((c.toNat : Int) == 96) = false := hn 96 (by decide)
    have n124 : ((c.toNat : Int) == 124) = false := hn 124 (by decide)
    have n126 : ((c.toNat : Int) == 126) = false := hn 126 (by decide)
    have HE := Lib.hid he
    clear he hn hc
    go_enter Tryz.func58, Tryz.ntmps58
    go_wp2_with fail
    refine (oct_isPlain c _).mono ?_
    rintro e w1 ⟨rfl, rfl⟩
    go_wp2
    go_ret
    exact ⟨by rw [HE.out]; rfl, rfl⟩
  · have he : isTokB c = true := by unfold isTokB; rw [hc]; rfl
    have hm := List.contains_iff_mem.1 hc
    unfold tokL at hm
    simp only [List.mem_cons, List.not_mem_nil, or_false] at hm
    rw [he]
    clear hc he
    rcases hm with rfl | rfl | rfl | rfl | rfl | rfl | rfl | rfl | rfl | rfl | rfl | rfl | rfl | rfl | rfl
    all_goals
      go_enter Tryz.func58, Tryz.ntmps58
      go_wp2
      go_ret
      exact ⟨rfl, rfl⟩
set_option maxHeartbeats 1000000 in
theorem oct_all_tok (s : ByteArray) (w : World) (hs : s.size ≤ 9223372036854775807) : Calls Tryz.prog 57 #[.string s, .func (.func 58) #[] #[]] w fun e w' => e = .returned (.bool (allB isTokB s)) ∧ w = w' := by
  have hlen : (L s).length = s.size := rfl
  obtain ⟨l, hl⟩ : ∃ l, L s = l := ⟨_, rfl⟩
  rw [hl] at hlen
  have he : allB isTokB s = (l.all isTokB && !s.toList.isEmpty) := by unfold allB; rw [hl]
  have HE := Lib.hid he; have HL := Lib.hid hl; have HN := Lib.hid hlen
  clear he hlen hl
  go_enter Tryz.func57, Tryz.ntmps57
  go_wp2
  go_loop [8] (fun i => ∃ k : Nat, k ≤ s.size ∧ i = .int .i64 k ∧ (l.take k).all isTokB = true) (fun i => s.size - (intOf i).toNat)
  case atStart => exact ⟨0, Nat.zero_le _, rfl, rfl⟩
  case round =>
    obtain ⟨k, hk, rfl, hall⟩ := hrel
    by_cases hlt : k < s.size
    · have hkl : k < l.length := by have := HN.out; omega
      have hat : l[k] = s[k] := by have := HL.out; subst this; rfl
      obtain ⟨c, hc⟩ : ∃ c, s[k] = c := ⟨_, rfl⟩
      rw [hc] at hat
      have HA := Lib.hid hall; have HAT := Lib.hid hat; clear hall hat
      go_wp2_with fail
      refine (oct_isToken c _).mono ?_
      rintro e w1 ⟨rfl, rfl⟩
      cases hq : isTokB c
      · have HQ := Lib.hid hq
        go_wp2
        go_ret
        exact ⟨by rw [HE.out, all_drop hkl HA.out (by rw [HAT.out]; exact HQ.out)]; rfl, rfl⟩
      · have HQ := Lib.hid hq
        go_wp2
        go_round
        case measure => exact meas hlt .i64 .i64
        case rel => exact ⟨k + 1, by omega, by go_num, all_succ hkl HA.out (by rw [HAT.out]; exact HQ.out)⟩
    · have e : l.take k = l := List.take_of_length_le (by have := HN.out; omega)
      rw [e] at hall
      have HA := Lib.hid hall; clear hall e
      cases hq : s.toList.isEmpty
      all_goals
        have HQ := Lib.hid hq
        go_wp2
        go_ret
        exact ⟨by rw [HE.out, HA.out, HQ.out]; rfl, rfl⟩
theorem oct_Token (s : ByteArray) (w : World) (hs : s.size ≤ 9223372036854775807) : Calls Tryz.prog 40 #[.string s] w fun e w' => e = .returned (.bool (allB isTokB s)) ∧ w = w' := by
  go_enter Tryz.func40, Tryz.ntmps40
  go_wp2_with fail
  refine (oct_all_tok s _ hs).mono ?_
  rintro e w1 ⟨rfl, rfl⟩
  go_wp2
  go_ret
  exact ⟨rfl, rfl⟩
def octTrim (s : ByteArray) : ByteArray := trimB s ⟨#[32, 9]⟩
theorem oct_Trim (s : ByteArray) (w : World) (hs : s.size ≤ 9223372036854775807) : Calls Tryz.prog 56 #[.string s] w fun e w' => e = .returned (.string (octTrim s)) ∧ Below w.heap.size w w' := by
  go_enter Tryz.func56, Tryz.ntmps56
  go_wp2_with fail
  refine (lib_Trim s ⟨#[32, 9]⟩ _ hs (by decide) (by decide)).mono ?_
  rintro e w1 ⟨rfl, hb⟩
  go_wp2
  go_ret
  exact ⟨rfl, hb⟩
end Go.Proofs.YthjnmcciejfpcaaGreatDoor

namespace Go.Proofs.YthjnmcciejfpcaaGreatDoor
set_option linter.unusedVariables false
set_option linter.unusedSimpArgs false
open Go.RowKit

theorem clean_at (s : ByteArray) (v : Value) (w : World) (h : cleanR (cleanS s) = v) (hm : MaxL w) (hs : s.size ≤ 8388608) :
    Calls Tryz.prog 51 #[.string s] w fun e w' => e = .returned v ∧ Below w.heap.size w w' := by subst h; exact path_Clean s w hm hs
theorem cleanR_some {s p : ByteArray} (h : cleanS s = some p) : cleanR (cleanS s) = .tuple #[.string p, .nilIface] := by rw [h]; rfl
theorem cleanR_none {s : ByteArray} (h : cleanS s = none) : cleanR (cleanS s) = .tuple #[.string ⟨#[]⟩, .iface 31 (.int .i64 10)] := by rw [h]; rfl
theorem segs_at (s : ByteArray) (l : List ByteArray) (n : Nat) (w : World) (h : segs s = l) (hn : l.length = n) (hm : MaxL w) (hs : s.size < 4294967281) :
    Calls Tryz.prog 50 #[.string s] w fun e w' => (∃ A c, e = .returned (.slice A n c) ∧ n ≤ c ∧ Strs w' A l) ∧ Below w.heap.size w w' := by subst h hn; exact path_Segments s w hm hs

end Go.Proofs.YthjnmcciejfpcaaGreatDoor
