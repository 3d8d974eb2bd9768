/- path.Segments, path.Begins: a path's segments that are not empty. -/
import Derived.Test.YthjnmcciejfpcaaDoorLib
import Derived.Shelf.SlicesE.DeleteFunc
namespace Go.Proofs.YthjnmcciejfpcaaDoor
set_option linter.unusedVariables false
set_option linter.unusedSimpArgs false
open Go.RowKit

def full (s : ByteArray) : Bool := !s.toList.isEmpty
def segs (s : ByteArray) : List ByteArray := (cutB s 47).filter full
def segsL (l : List UInt8) : List (List UInt8) := (cutC 47 l).filter fun x => !x.isEmpty
theorem segs_eq (s : ByteArray) : segs s = (segsL (L s)).map mk := by
  unfold segs segsL cutB
  rw [List.filter_map]
  congr 1
  apply List.filter_congr
  intro x _
  show full (mk x) = _
  unfold full; rw [toList_L, L_mk]
theorem segs_len (s : ByteArray) : (segs s).length ≤ s.size + 1 := Nat.le_trans (List.length_filter_le _ _) (cutB_len s 47)
theorem segs_size {s x : ByteArray} (h : x ∈ segs s) : x.size ≤ s.size := by
  rw [segs_eq] at h
  obtain ⟨y, hy, rfl⟩ := List.mem_map.1 h
  have hy' : y ∈ cutC 47 (L s) := (List.mem_filter.1 hy).1
  have h1 := cutC_sum 47 (L s)
  have h2 : y.length ≤ ((cutC 47 (L s)).map List.length).sum := by
    obtain ⟨a, b, e⟩ := List.append_of_mem hy'
    rw [e]; simp; omega
  have h3 : 0 < (cutC 47 (L s)).length := List.length_pos_iff.2 (cutC_ne _ _)
  rw [mk_size]
  have : (L s).length = s.size := rfl
  omega

theorem segs_fn (x : ByteArray) (W : World) : FnGives Tryd.prog 53 #[] #[.string x] (.bool (!full x)) W := by
  show Calls Tryd.prog 53 #[.string x] W _
  unfold full
  cases hx : x.toList.isEmpty
  all_goals
    go_enter Tryd.func53, Tryd.ntmps53
    go_wp2
    go_ret
    exact ⟨rfl, 0, rfl⟩
def sl10_ren : Go.Shelf.Ren := ⟨fun | 6 => 65 | 10 => 51 | n => n, fun | 0 => 0 | 3 => 3 | 4 => 4 | 22 => 41 | 23 => 9 | 25 => 52 | n => n, fun | n => n⟩
theorem sl10 : SlLaysH.n10 Tryd.prog sl10_ren := {
  mixed := by kernel_rfl
  f6 := ⟨Tryd.f65.name, by decide, Tryd.func65.trans (congrArg some (by kernel_rfl))⟩
  f10 := ⟨Tryd.f51.name, by decide, Tryd.func51.trans (congrArg some (by kernel_rfl))⟩
  t0 := Tryd.underlying0
  a0 := Tryd.isAgg0
  z0 := Tryd.sizeOf0
  v0 := Tryd.zeroValue0
  t3 := Tryd.underlying3
  a3 := Tryd.isAgg3
  z3 := Tryd.sizeOf3
  v3 := Tryd.zeroValue3
  t4 := Tryd.underlying4
  a4 := Tryd.isAgg4
  z4 := Tryd.sizeOf4
  v4 := Tryd.zeroValue4
  t22 := Tryd.underlying41
  a22 := Tryd.isAgg41
  z22 := Tryd.sizeOf41
  v22 := Tryd.zeroValue41
  a23 := Tryd.isAgg9
  z23 := Tryd.sizeOf9
  t25 := Tryd.underlying52
  a25 := Tryd.isAgg52
  z25 := Tryd.sizeOf52
  v25 := Tryd.zeroValue52 }
theorem holds_new (w : World) (l : List ByteArray) (t : TypeId) : Go.Sort.Holds Value.string (w.alloc (.cells (l.map Value.string).toArray t)) w.heap.size 0 l.toArray := by
  intro j hj
  have hj' : j < l.length := by simpa using hj
  refine ⟨?_, ?_⟩
  · rw [Nat.zero_add, World.cell?_alloc_mark]; simp [hj']
  · rw [World.frozen?_alloc_mark]; simp
theorem putRow_strs {w : World} {g : Nat} {d0 : Array ByteArray} (hg : g < w.heap.size) (h0 : Go.Sort.Holds Value.string w g 0 d0) (l r : List ByteArray) (hs : (l ++ r).length = d0.size) :
    Strs (Go.Sort.putRow Value.string w g 0 (l ++ r).toArray) (some ⟨g, 0, none⟩) l := fun hp => by
  have hz : ((l ++ r).toArray).size = d0.size := by simpa using hs
  have hl : d0.size = l.length + r.length := by rw [← hs, List.length_append]
  refine ⟨g, 0, rfl, ?_, fun k hk => ?_⟩
  · have := World.block_lt_of_cell? _ _ ((Go.Sort.cell?_putRow Value.string w g 0 d0 _ h0 hz 0 (by simp; omega)))
    exact this
  · rw [Go.Sort.cell?_putRow Value.string w g 0 d0 _ h0 hz k (by simp; omega)]
    have : ((l ++ r).toArray)[k]! = l[k] := by
      rw [getElem!_pos _ _ (by simp; omega)]
      simp [List.getElem_append, hk]
    rw [this]

set_option maxHeartbeats 1000000 in
theorem path_Segments (s : ByteArray) (w : World) (hm : MaxL w) (hs : s.size < 4294967281) :
    Calls Tryd.prog 38 #[.string s] w fun e w' => (∃ A c, e = .returned (.slice A (segs s).length c) ∧ (segs s).length ≤ c ∧ Strs w' A (segs s)) ∧ Below w.heap.size w w' := by
  have eg : ∀ args w, (callFunc 53 args).run Tryd.prog w = .ok (.enter 53 args) w := enters_of Tryd.func53 (by kernel_rfl) rfl
  have hle := cutB_len s 47
  have hH := holds_new w (cutB s 47) 9
  have hcon := AnyE.slices_DeleteFunc sl10 Value.string (fun _ => rfl) (fun x => !full x) 53 #[] eg ByteArray.empty Tryd.zeroValue9 w.heap.size 0 (cutB s 47).length (cutB s 47).toArray _
    (fun W x _ => segs_fn x W) (fun n os dk x _ => segs_fn x _) hH (by simp; omega) (by simp)
  have hfil : ((cutB s 47).toArray.toList.filter fun x => !!full x) = segs s := by simp [segs]
  simp only [hfil] at hcon
  have hsz : (cutB s 47).toArray.size = (cutB s 47).length := by simp
  rw [hsz] at hcon
  change Calls Tryd.prog 51 _ _ _ at hcon
  obtain ⟨n, hn⟩ : ∃ n, n = (cutB s 47).length := ⟨_, rfl⟩
  have hseg : (segs s).length ≤ n := by rw [hn]; exact List.length_filter_le _ _
  have HN := Lib.hid hn
  rw [← hn] at hcon
  have HC := Lib.hid hcon; have HH := Lib.hid hH
  clear hcon hH hfil eg hsz hle
  go_enter Tryd.func38, Tryd.ntmps38
  go_wp2_with fail
  refine (lib_Split s 47 _ hm hs).mono ?_
  rintro e w1 ⟨rfl, rfl⟩
  rw [← hn]
  clear hn
  go_wp2_with fail
  refine HC.out.mono ?_
  rintro e w2 ⟨rfl, q, rfl⟩
  go_wp2
  go_ret
  refine ⟨⟨_, _, rfl, by omega, ?_⟩, ?_⟩
  · exact putRow_strs (w := Go.Sort.ahead _ q) (d0 := (cutB s 47).toArray) (by show w.heap.size < (World.alloc _ _).heap.size; simp) (Go.Sort.holds_ahead _ _ _ _ _ _ HH.out) _ _ (by simp; have := HN.out; omega)
  · exact Lib.below_putRow (fr_alloc (fr_refl _) _) (Nat.le_refl _)

def begS (p q : ByteArray) : Bool := decide ((segs q).length ≤ (segs p).length) && decide ((segs p).take (segs q).length = segs q)
set_option maxHeartbeats 1000000 in
theorem slices_Equal (A B : Option Addr) (n c d : Nat) (xs ys : List ByteArray) (w : World) (hA : Strs w A xs) (hB : Strs w B ys) (hn : n ≤ xs.length) (hy : ys.length = n) (hb : n ≤ 9223372036854775807) :
    Calls Tryd.prog 41 #[.slice A n c, .slice B n d] w fun e w' => e = .returned (.bool (decide (xs.take n = ys))) ∧ Below w.heap.size w w' := by
  by_cases h0 : n = 0
  · subst h0
    have : ys = [] := List.eq_nil_of_length_eq_zero hy
    subst this
    refine (Tryd.slices_Equal_string_empty A B c 0 d w (by omega)).mono ?_
    rintro e w' ⟨rfl, rfl⟩
    exact ⟨by simp, fr_refl _⟩
  · obtain ⟨b1, o1, rfl, h1, c1⟩ := hA (by omega)
    obtain ⟨b2, o2, rfl, h2, c2⟩ := hB (by omega)
    have e1 : ∀ j, j < xs.length → w.cell? ⟨b1, o1 + j, none⟩ = some (.string (xs.getD j ByteArray.empty)) := fun j hj => by rw [c1 j hj]; simp [List.getD, hj]
    have e2 : ∀ j, j < ys.length → w.cell? ⟨b2, o2 + j, none⟩ = some (.string (ys.getD j ByteArray.empty)) := fun j hj => by rw [c2 j hj]; simp [List.getD, hj]
    refine (Tryd.slices_Equal_string b1 o1 n c b2 o2 n d xs ys w hn (by omega) hb hb e1 e2).mono ?_
    rintro e w' ⟨rfl, q, rfl⟩
    exact ⟨by rw [List.take_of_length_le (l := ys) (by omega)], fr_drewN (fr_refl _) _⟩
set_option maxHeartbeats 1000000 in
theorem path_Begins (p q : ByteArray) (w : World) (hm : MaxL w) (hp : p.size < 4294967281) (hq : q.size < 4294967281) :
    Calls Tryd.prog 23 #[.string p, .string q] w fun e w' => e = .returned (.bool (begS p q)) ∧ Below w.heap.size w w' := by
  have l1 := segs_len p
  have l2 := segs_len q
  have HM := Lib.hid hm; clear hm
  go_enter Tryd.func23, Tryd.ntmps23
  go_wp2_with fail
  refine (path_Segments p _ HM.out hp).mono ?_
  rintro e w1 ⟨⟨A, c, rfl, hc, hA⟩, hb1⟩
  go_wp2_with fail
  refine (path_Segments q _ (HM.out.fr hb1) hq).mono ?_
  rintro e w2 ⟨⟨B, d, rfl, hd, hB⟩, hb2⟩
  have hA2 := hA.fr hb2
  have hbw := fr_trans hb1 hb2
  clear hA hb1 hb2
  have HA := Lib.hid hA2; have HB := Lib.hid hB; clear hA2 hB
  obtain ⟨xs, hxs⟩ : ∃ xs, segs p = xs := ⟨_, rfl⟩
  obtain ⟨ys, hys⟩ : ∃ ys, segs q = ys := ⟨_, rfl⟩
  have e : begS p q = (decide (ys.length ≤ xs.length) && decide (xs.take ys.length = ys)) := by unfold begS; rw [hxs, hys]
  rw [hxs] at HA l1 hc ⊢
  rw [hys] at HB l2 hd ⊢
  have E := Lib.hid e; clear e
  have H1 := Lib.hid hxs; have H2 := Lib.hid hys; clear hxs hys
  by_cases hle : ys.length ≤ xs.length
  · have hle' : (ys.length : Int) ≤ (xs.length : Int) := by omega
    go_wp2_with fail
    refine (slices_Equal _ B ys.length _ d xs ys _ HA.out HB.out hle rfl (by omega)).mono ?_
    rintro e w3 ⟨rfl, hb3⟩
    go_wp2
    go_ret
    exact ⟨by rw [E.out]; simp [hle], fr_trans hbw hb3⟩
  · have hle' : ¬ (ys.length : Int) ≤ (xs.length : Int) := by omega
    go_wp2
    go_ret
    exact ⟨by rw [E.out]; simp [hle], hbw⟩
end Go.Proofs.YthjnmcciejfpcaaDoor
