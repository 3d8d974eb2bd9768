/- path.Segments, path.Begins: a path's segments that are not empty. -/
import Derived.Test.YthjnmcciejfpcaaGreatDoorLib
import Derived.Shelf.SlicesE.DeleteFunc
namespace Go.Proofs.YthjnmcciejfpcaaGreatDoor
set_option linter.unusedVariables false
set_option linter.unusedSimpArgs false
open Go.RowKit

def full (s : ByteArray) : Bool := !s.toList.isEmpty
def segs (s : ByteArray) : List ByteArray := (cutB s 47).filter full
def segsL (l : List UInt8) : List (List UInt8) := (cutC 47 l).filter fun x => !x.isEmpty
theorem segs_eq (s : ByteArray) : segs s = (segsL (L s)).map mk := by
  unfold segs segsL cutB
  rw [List.filter_map]
  congr 1
  apply List.filter_congr
  intro x _
  show full (mk x) = _
  unfold full; rw [toList_L, L_mk]
theorem segs_len (s : ByteArray) : (segs s).length ≤ s.size + 1 := Nat.le_trans (List.length_filter_le _ _) (cutB_len s 47)
theorem segs_size {s x : ByteArray} (h : x ∈ segs s) : x.size ≤ s.size := by
  rw [segs_eq] at h
  obtain ⟨y, hy, rfl⟩ := List.mem_map.1 h
  have hy' : y ∈ cutC 47 (L s) := (List.mem_filter.1 hy).1
  have h1 := cutC_sum 47 (L s)
  have h2 : y.length ≤ ((cutC 47 (L s)).map List.length).sum := by
    obtain ⟨a, b, e⟩ := List.append_of_mem hy'
    rw [e]; simp; omega
  have h3 : 0 < (cutC 47 (L s)).length := List.length_pos_iff.2 (cutC_ne _ _)
  rw [mk_size]
  have : (L s).length = s.size := rfl
  omega

theorem segs_fn (x : ByteArray) (W : World) : FnGives Tryz.prog 74 #[] #[.string x] (.bool (!full x)) W := by
  show Calls Tryz.prog 74 #[.string x] W _
  unfold full
  cases hx : x.toList.isEmpty
  all_goals
    go_enter Tryz.func74, Tryz.ntmps74
    go_wp2
    go_ret
    exact ⟨rfl, 0, rfl⟩
def sl10_ren : Go.Shelf.Ren := ⟨fun | 6 => 84 | 10 => 72 | n => n, fun | 0 => 0 | 3 => 3 | 4 => 4 | 22 => 78 | 23 => 9 | 25 => 40 | n => n, fun | n => n⟩
theorem sl10 : SlLaysH.n10 Tryz.prog sl10_ren := {
  mixed := by kernel_rfl
  f6 := ⟨Tryz.f84.name, by decide, Tryz.func84.trans (congrArg some (by kernel_rfl))⟩
  f10 := ⟨Tryz.f72.name, by decide, Tryz.func72.trans (congrArg some (by kernel_rfl))⟩
  t0 := Tryz.underlying0
  a0 := Tryz.isAgg0
  z0 := Tryz.sizeOf0
  v0 := Tryz.zeroValue0
  t3 := Tryz.underlying3
  a3 := Tryz.isAgg3
  z3 := Tryz.sizeOf3
  v3 := Tryz.zeroValue3
  t4 := Tryz.underlying4
  a4 := Tryz.isAgg4
  z4 := Tryz.sizeOf4
  v4 := Tryz.zeroValue4
  t22 := Tryz.underlying78
  a22 := Tryz.isAgg78
  z22 := Tryz.sizeOf78
  v22 := Tryz.zeroValue78
  a23 := Tryz.isAgg9
  z23 := Tryz.sizeOf9
  t25 := Tryz.underlying40
  a25 := Tryz.isAgg40
  z25 := Tryz.sizeOf40
  v25 := Tryz.zeroValue40 }
theorem holds_new (w : World) (l : List ByteArray) (t : TypeId) : Go.Sort.Holds Value.string (w.alloc (.cells (l.map Value.string).toArray t)) w.heap.size 0 l.toArray := by
  intro j hj
  have hj' : j < l.length := by simpa using hj
  refine ⟨?_, ?_⟩
  · rw [Nat.zero_add, World.cell?_alloc_mark]; simp [hj']
  · rw [World.frozen?_alloc_mark]; simp
theorem putRow_strs {w : World} {g : Nat} {d0 : Array ByteArray} (hg : g < w.heap.size) (h0 : Go.Sort.Holds Value.string w g 0 d0) (l r : List ByteArray) (hs : (l ++ r).length = d0.size) :
    Strs (Go.Sort.putRow Value.string w g 0 (l ++ r).toArray) (some ⟨g, 0, none⟩) l := fun hp => by
  have hz : ((l ++ r).toArray).size = d0.size := by simpa using hs
  have hl : d0.size = l.length + r.length := by rw [← hs, List.length_append]
  refine ⟨g, 0, rfl, ?_, fun k hk => ?_⟩
  · have := World.block_lt_of_cell? _ _ ((Go.Sort.cell?_putRow Value.string w g 0 d0 _ h0 hz 0 (by simp; omega)))
    exact this
  · rw [Go.Sort.cell?_putRow Value.string w g 0 d0 _ h0 hz k (by simp; omega)]
    have : ((l ++ r).toArray)[k]! = l[k] := by
      rw [getElem!_pos _ _ (by simp; omega)]
      simp [List.getElem_append, hk]
    rw [this]

set_option maxHeartbeats 1000000 in
theorem path_Segments (s : ByteArray) (w : World) (hm : MaxL w) (hs : s.size < 4294967281) :
    Calls Tryz.prog 50 #[.string s] w fun e w' => (∃ A c, e = .returned (.slice A (segs s).length c) ∧ (segs s).length ≤ c ∧ Strs w' A (segs s)) ∧ Below w.heap.size w w' := by
  have eg : ∀ args w, (callFunc 74 args).run Tryz.prog w = .ok (.enter 74 args) w := enters_of Tryz.func74 (by kernel_rfl) rfl
  have hle := cutB_len s 47
  have hH := holds_new w (cutB s 47) 9
  have hcon := AnyE.slices_DeleteFunc sl10 Value.string (fun _ => rfl) (fun x => !full x) 74 #[] eg ByteArray.empty Tryz.zeroValue9 w.heap.size 0 (cutB s 47).length (cutB s 47).toArray _
    (fun W x _ => segs_fn x W) (fun n os dk x _ => segs_fn x _) hH (by simp; omega) (by simp)
  have hfil : ((cutB s 47).toArray.toList.filter fun x => !!full x) = segs s := by simp [segs]
  simp only [hfil] at hcon
  have hsz : (cutB s 47).toArray.size = (cutB s 47).length := by simp
  rw [hsz] at hcon
  change Calls Tryz.prog 72 _ _ _ at hcon
  obtain ⟨n, hn⟩ : ∃ n, n = (cutB s 47).length := ⟨_, rfl⟩
  have hseg : (segs s).length ≤ n := by rw [hn]; exact List.length_filter_le _ _
  have HN := Lib.hid hn
  rw [← hn] at hcon
  have HC := Lib.hid hcon; have HH := Lib.hid hH
  clear hcon hH hfil eg hsz hle
  go_enter Tryz.func50, Tryz.ntmps50
  go_wp2_with fail
  refine (lib_Split s 47 _ hm hs).mono ?_
  rintro e w1 ⟨rfl, rfl⟩
  rw [← hn]
  clear hn
  go_wp2_with fail
  refine HC.out.mono ?_
  rintro e w2 ⟨rfl, q, rfl⟩
  go_wp2
  go_ret
  refine ⟨⟨_, _, rfl, by omega, ?_⟩, ?_⟩
  · exact putRow_strs (w := Go.Sort.ahead _ q) (d0 := (cutB s 47).toArray) (by show w.heap.size < (World.alloc _ _).heap.size; simp) (Go.Sort.holds_ahead _ _ _ _ _ _ HH.out) _ _ (by simp; have := HN.out; omega)
  · exact Lib.below_putRow (fr_alloc (fr_refl _) _) (Nat.le_refl _)

def begS (p q : ByteArray) : Bool := decide ((segs q).length ≤ (segs p).length) && decide ((segs p).take (segs q).length = segs q)
end Go.Proofs.YthjnmcciejfpcaaGreatDoor
