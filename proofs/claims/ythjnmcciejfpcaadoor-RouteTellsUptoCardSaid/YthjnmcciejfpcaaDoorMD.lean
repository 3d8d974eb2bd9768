/- octet.Escape. rule.isHost, isClean, isExt. octet.List; rule.isMethods, isSegs, isPath. rule.Host, isSegs, isPath, Ware (methods; none), Is (without wares). rule.Ware (methods; none), rule.Is (without wares). conduitlaw12.known: true. -/
import Derived.Test.YthjnmcciejfpcaaDoorMC
import Derived.Test.YthjnmcciejfpcaaDoorPBack
import Derived.Deep.RegionLaw
import Derived.Deep.AppendLies
import Derived.OwnWalk
import Derived.IntWalk
import Derived.Test.YthjnmcciejfpcaaDoorLow
import Derived.KernelRfl
namespace Go.Proofs.YthjnmcciejfpcaaDoor
set_option linter.unusedVariables false
set_option linter.unusedSimpArgs false
open Go.RowKit

theorem plainIAll : (List.range 256).all (fun n => plainB (UInt8.ofNat n) == (decide (0 ≤ Lib.indexByte [45, 46, 95, 126, 47] (UInt8.ofNat n)) || isPlainB (UInt8.ofNat n))) = true := by kernel_rfl
theorem plainI (c : UInt8) : plainB c = (decide (0 ≤ Lib.indexByte (L ⟨#[45, 46, 95, 126, 47]⟩) c) || isPlainB c) := by
  have h := List.all_eq_true.1 plainIAll c.toNat (List.mem_range.2 c.toNat_lt)
  rw [show UInt8.ofNat c.toNat = c by simp] at h
  exact beq_iff_eq.1 h
theorem and15All : (List.range 256).all (fun n => bits BinOp.and IntKind.u8 (n : Int) 15 == (n : Int) % 16) = true := by kernel_rfl
theorem and15 (n : Nat) (h : n < 256) : bits BinOp.and IntKind.u8 (n : Int) 15 = (n : Int) % 16 := beq_iff_eq.1 (List.all_eq_true.1 and15All n (List.mem_range.2 h))
theorem up_get (q : Nat) (h : q < (⟨#[48, 49, 50, 51, 52, 53, 54, 55, 56, 57, 65, 66, 67, 68, 69, 70]⟩ : ByteArray).size) : ((⟨#[48, 49, 50, 51, 52, 53, 54, 55, 56, 57, 65, 66, 67, 68, 69, 70]⟩ : ByteArray)[q]'h).toNat = (upD q).toNat := by
  have h1 : (L ⟨#[48, 49, 50, 51, 52, 53, 54, 55, 56, 57, 65, 66, 67, 68, 69, 70]⟩)[q]'h = (⟨#[48, 49, 50, 51, 52, 53, 54, 55, 56, 57, 65, 66, 67, 68, 69, 70]⟩ : ByteArray)[q]'h := rfl
  unfold upD
  have h2 : (L ⟨#[48, 49, 50, 51, 52, 53, 54, 55, 56, 57, 65, 66, 67, 68, 69, 70]⟩)[q]? = some ((L ⟨#[48, 49, 50, 51, 52, 53, 54, 55, 56, 57, 65, 66, 67, 68, 69, 70]⟩)[q]'h) := List.getElem?_eq_getElem h
  rw [List.getD, h2]
  rfl
def escB (s : ByteArray) : ByteArray := mk (E (L s))
theorem escB_size (s : ByteArray) : (escB s).size ≤ 3 * s.size := by unfold escB; rw [mk_size]; exact E_len (L s)
theorem E_next (s : ByteArray) (k : Nat) (h : k < s.size) : E ((L s).take (k + 1)) = E ((L s).take k) ++ esc1 s[k] := by
  have hat : (L s)[k]'h = s[k] := rfl
  rw [List.take_succ_eq_append_getElem (show k < (L s).length from h), E_app, hat]
  congr 1
  simp [E]
end Go.Proofs.YthjnmcciejfpcaaDoor

namespace Go.Proofs.YthjnmcciejfpcaaDoor
set_option linter.unusedVariables false
set_option linter.unusedSimpArgs false
open Go.RowKit

def hostSet : ByteArray := ⟨#[97, 98, 99, 100, 101, 102, 103, 104, 105, 106, 107, 108, 109, 110, 111, 112, 113, 114, 115, 116, 117, 118, 119, 120, 121, 122, 48, 49, 50, 51, 52, 53, 54, 55, 56, 57, 45, 46]⟩
def letSet : ByteArray := ⟨#[97, 98, 99, 100, 101, 102, 103, 104, 105, 106, 107, 108, 109, 110, 111, 112, 113, 114, 115, 116, 117, 118, 119, 120, 121, 122]⟩
def hostOk (s : ByteArray) : Bool := Nat.ble s.size 64 && (L s).all (fun c => (L hostSet).contains c)
def cleanOk (s : ByteArray) : Bool := match cleanS (escB s) with
  | some p => eqB p s
  | none => false
def tailE (s : ByteArray) : ByteArray := mk (Lib.trimPrefix (L s) [46])
def extOk (s : ByteArray) : Bool := Lib.hasPrefix (L s) [46] && !(tailE s).toList.isEmpty && Nat.ble (tailE s).size 8 && (L (tailE s)).all (fun c => (L letSet).contains c)
end Go.Proofs.YthjnmcciejfpcaaDoor

namespace Go.Proofs.YthjnmcciejfpcaaDoor
set_option linter.unusedVariables false
set_option linter.unusedSimpArgs false
open Go.RowKit

theorem cutB_mem {s x : ByteArray} {c : UInt8} (h : x ∈ cutB s c) : x.size ≤ s.size := by
  have h1 := cutC_sum c (L s)
  obtain ⟨y, hy, rfl⟩ := List.mem_map.1 h
  have h2 : y.length ≤ ((cutC c (L s)).map List.length).sum := by
    obtain ⟨a, b, e⟩ := List.append_of_mem hy
    rw [e]; simp; omega
  have h3 : 0 < (cutC c (L s)).length := List.length_pos_iff.2 (cutC_ne _ _)
  rw [mk_size]
  have : (L s).length = s.size := rfl
  omega
def lN (l : List ByteArray) (k : Nat) : List ByteArray := ((l.take k).map octTrim).filter full
theorem lN_succ {l : List ByteArray} {k : Nat} (h : k < l.length) : lN l (k + 1) = lN l k ++ (if full (octTrim l[k]) then [octTrim l[k]] else []) := by
  unfold lN
  rw [List.take_succ_eq_append_getElem h, List.map_append, List.filter_append]
  congr 1
  show List.filter full [octTrim l[k]] = _
  rw [List.filter_cons]; rfl
theorem lN_len (l : List ByteArray) (k : Nat) : (lN l k).length ≤ l.length := by
  unfold lN
  refine Nat.le_trans (List.length_filter_le _ _) ?_
  rw [List.length_map, List.length_take]; omega
def listS (s : ByteArray) : List ByteArray := lN (cutB s 44) (cutB s 44).length
def okM (m : ByteArray) : Bool := allB isTokB m && Nat.ble m.size 16
def methOk (s : ByteArray) : Bool := (listS s).all okM && Nat.blt 0 (listS s).length && Nat.ble s.size 1024
theorem ble_no {a b : Nat} (h : ¬ a ≤ b) : Nat.ble a b = false := by cases hb : Nat.ble a b with | false => rfl | true => rw [Nat.ble_eq] at hb; omega
theorem ble_yes {a b : Nat} (h : a ≤ b) : Nat.ble a b = true := by rw [Nat.ble_eq]; exact h
theorem listS_len (s : ByteArray) : (listS s).length ≤ s.size + 1 := Nat.le_trans (lN_len _ _) (cutB_len s 44)
theorem listS_mem {s x : ByteArray} (h : x ∈ listS s) : x.size ≤ s.size := by
  unfold listS lN at h
  obtain ⟨y, hy, rfl⟩ := List.mem_map.1 (List.mem_filter.1 h).1
  exact Nat.le_trans (trimB_size _ _) (cutB_mem (List.mem_of_mem_take hy))
theorem ball_drop {p : ByteArray → Bool} {l : List ByteArray} {k : Nat} (h : k < l.length) (hp : p l[k] = false) : l.all p = false := by
  rw [← List.take_append_drop k l, List.all_append, List.drop_eq_getElem_cons h, List.all_cons, hp]; simp
theorem ball_succ {p : ByteArray → Bool} {l : List ByteArray} {k : Nat} (h : k < l.length) (hk : (l.take k).all p = true) (hp : p l[k] = true) : (l.take (k + 1)).all p = true := by
  rw [List.take_succ_eq_append_getElem h, List.all_append, hk]; simp [hp]
end Go.Proofs.YthjnmcciejfpcaaDoor

namespace Go.Proofs.YthjnmcciejfpcaaDoor
set_option linter.unusedVariables false
set_option linter.unusedSimpArgs false
open Go.RowKit

theorem cutS_size (s : ByteArray) (c : UInt8) : (cutS s c).1.size ≤ s.size := by
  unfold cutS; split
  · show (s.extract 0 _).size ≤ _; rw [ByteArray.size_extract]; omega
  · exact Nat.le_refl _
def hostS (h : ByteArray) : ByteArray := lowB (cutS h 58).1
theorem rule_Host (s : ByteArray) (w : World) (hs : s.size ≤ 9223372036854775807) :
    Calls Tryd.prog 16 #[.string s] w fun e w' => e = .returned (.string (hostS s)) ∧ Below w.heap.size w w' := by
  have hz := cutS_size s 58
  go_enter Tryd.func16, Tryd.ntmps16
  go_wp2_with fail
  refine (lib_Cut s 58 _ hs).mono ?_
  rintro e w1 ⟨rfl, hb1⟩
  go_wp2_with fail
  refine (octet_Lower _ _ (by omega)).mono ?_
  rintro e w2 ⟨rfl, hb2⟩
  go_wp2
  go_ret
  exact ⟨rfl, fr_trans hb1 hb2⟩
def tailC (x : ByteArray) : ByteArray := mk (Lib.trimPrefix (L x) [58])
def segOk (x : ByteArray) : Bool := !(Lib.hasPrefix (L x) [58]) || allB isTokB (tailC x)
def segsOk (s : ByteArray) : Bool := (segs s).all segOk && Nat.ble (segs s).length 8
def pathOk (k : Int) (s : ByteArray) : Bool := if k = 4 then extOk s else if k = 2 then segsOk s && cleanOk s else if k = 1 ∨ k = 3 then cleanOk s else false
end Go.Proofs.YthjnmcciejfpcaaDoor

namespace Go.Proofs.YthjnmcciejfpcaaDoor
set_option linter.unusedVariables false
set_option linter.unusedSimpArgs false
open Go.RowKit

def isOk0 (k : Int) (h p : ByteArray) (b n : Int) : Bool := decide (0 ≤ b) && decide (b < n) && hostOk h && pathOk k p
end Go.Proofs.YthjnmcciejfpcaaDoor

namespace Go.Proofs.YthjnmcciejfpcaaDoor
set_option linter.unusedVariables false
set_option linter.unusedSimpArgs false
open Go.RowKit

def cleanOkE (s : ByteArray) : Bool := match cleanE (escB s) with
  | some p => L p == L s
  | none => false
theorem cleanOkE_eq (s : ByteArray) : cleanOk s = cleanOkE s := by
  unfold cleanOk cleanOkE
  rw [cleanE_eq]
  cases cleanE (escB s) with
  | none => rfl
  | some p => exact eqB_L p s
def extOkE (s : ByteArray) : Bool := Lib.hasPrefix (L s) [46] && !(L (tailE s)).isEmpty && Nat.ble (tailE s).size 8 && (L (tailE s)).all (fun c => (L letSet).contains c)
theorem extOkE_eq (s : ByteArray) : extOk s = extOkE s := by unfold extOk extOkE; rw [toList_L]
def allE (p : UInt8 → Bool) (s : ByteArray) : Bool := (L s).all p && !(L s).isEmpty
theorem allE_eq (p : UInt8 → Bool) (s : ByteArray) : allB p s = allE p s := by unfold allB allE; rw [toList_L]
def segOkE (x : ByteArray) : Bool := !(Lib.hasPrefix (L x) [58]) || allE isTokB (tailC x)
def segsOkE (s : ByteArray) : Bool := (segsE' s).all segOkE && Nat.ble (segsE' s).length 8
theorem segsOkE_eq (s : ByteArray) : segsOk s = segsOkE s := by
  unfold segsOk segsOkE
  rw [segsE'_eq]
  have : segOk = segOkE := by funext x; unfold segOk segOkE; rw [allE_eq]
  rw [this]
def pathOkE (k : Int) (s : ByteArray) : Bool := if k = 4 then extOkE s else if k = 2 then segsOkE s && cleanOkE s else if k = 1 ∨ k = 3 then cleanOkE s else false
theorem pathOkE_eq (k : Int) (s : ByteArray) : pathOk k s = pathOkE k s := by unfold pathOk pathOkE; rw [extOkE_eq, segsOkE_eq, cleanOkE_eq]
def fullE (s : ByteArray) : Bool := !(L s).isEmpty
theorem fullE_eq : full = fullE := by funext s; unfold full fullE; rw [toList_L]
def okME (m : ByteArray) : Bool := allE isTokB m && Nat.ble m.size 16
def listE (s : ByteArray) : List ByteArray := ((cutB s 44).map octTrim).filter fullE
theorem listE_eq (s : ByteArray) : listS s = listE s := by
  unfold listS lN listE
  rw [List.take_length, fullE_eq]
def methOkE (s : ByteArray) : Bool := (listE s).all okME && Nat.blt 0 (listE s).length && Nat.ble s.size 1024
theorem methOkE_eq (s : ByteArray) : methOk s = methOkE s := by
  unfold methOk methOkE
  rw [listE_eq]
  have : okM = okME := by funext x; unfold okM okME; rw [allE_eq]
  rw [this]
theorem root_ok : pathOk 3 ⟨#[47]⟩ = true := by rw [pathOkE_eq]; kernel_rfl
end Go.Proofs.YthjnmcciejfpcaaDoor
