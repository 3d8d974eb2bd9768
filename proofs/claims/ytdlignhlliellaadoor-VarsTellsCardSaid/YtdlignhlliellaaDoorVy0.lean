/- vars.Build, plainly; what its walk carries from call to call. -/
import Derived.Test.YtdlignhlliellaaDoorVx
import Derived.Test.YtdlignhlliellaaDoorNum
import Derived.Deep.RegionHeld3
namespace Go.Proofs.YtdlignhlliellaaDoor
set_option linter.unusedVariables false
set_option linter.unusedSimpArgs false
open Go.RowKit

theorem st_Split (t p q : ByteArray) (o : Bool) (w : World) (h : cutS t 63 = (p, q, o)) (hs : t.size ≤ 9223372036854775807) :
    Calls Tryd.prog 14 #[.string t] w fun e w' => e = .returned (.tuple #[.string p, .string q]) ∧ Below w.heap.size w w' := by
  have hc := fun W => lib_Cut t 63 W hs
  rw [h] at hc
  have HC := Lib.hid hc
  clear hc h
  go_enter Tryd.func14, Tryd.ntmps14
  go_wp2_with fail
  refine (HC.out _).mono ?_
  rintro e w1 ⟨rfl, hb1⟩
  go_wp2
  go_ret2
  exact ⟨rfl, hb1⟩
structure Ctx (w w0 wx : World) (f : Value) (l : List Pr) (n : Nat) : Prop where
  rows : RowsAt (w.heap.size + 4) (w.heap.size + 3) wx f l
  bel : Below (w.heap.size + 3) w0 wx
  size : w.heap.size + 4 ≤ wx.heap.size
  old : Below w.heap.size w wx
  len : l.length ≤ n
variable {w w0 wx wy : World} {f : Value} {l : List Pr} {n : Nat}
theorem Ctx.fr (C : Ctx w w0 wx f l n) (hb : Below wx.heap.size wx wy) : Ctx w w0 wy f l n :=
  ⟨C.rows.fr hb, C.bel.trans (hb.mono (by have := C.size; omega)), Nat.le_trans C.size hb.size, C.old.trans (hb.mono (by have := C.size; omega)), C.len⟩
theorem Ctx.cell (C : Ctx w w0 wx f l n) {b o : Nat} {v : Value} (hb : b < w.heap.size + 3) (h : w0.cell? ⟨b, o, none⟩ = some v) : wx.cell? ⟨b, o, none⟩ = some v :=
  (C.bel.cell (p := ⟨b, o, none⟩) hb).trans h
theorem Ctx.two (C : Ctx w w0 wx f l n) {f' : Value} {l' : List Pr} {n' : Nat} (h : RowsAt (w.heap.size + 4) (w.heap.size + 3) wy f' l') (hT : Two (w.heap.size + 3) f.ownBlock wx wy) (hl : l'.length ≤ n') : Ctx w w0 wy f' l' n' :=
  have hge := own_ge C.rows.own
  ⟨h, C.bel.trans (hT.below (by have := C.size; omega) (Nat.le_refl _) (fun k hk => by have := hge k hk; omega)), Nat.le_trans C.size hT.size,
    C.old.trans (hT.below (by have := C.size; omega) (by omega) (fun k hk => by have := hge k hk; omega)), hl⟩
theorem addL_len (l : List Pr) (a b : ByteArray) : (addL l a b).length ≤ l.length + 1 := by unfold addL; split <;> simp
theorem someL_len (l : List Pr) (a b : ByteArray) : (someL l a b).length ≤ l.length + 1 := by
  unfold someL; split
  · omega
  · exact addL_len _ _ _
theorem Ctx.add (C : Ctx w w0 wx f l n) (nm v : ByteArray) (l' : List Pr) (h : addL l nm v = l') (hn : n ≤ 1000000) :
    Calls Tryd.prog 15 #[.pointer (some ⟨w.heap.size + 3, 0, none⟩), .string nm, .string v] wx fun e w' => e = .returned (.tuple #[]) ∧ ∃ f', Ctx w w0 w' f' l' (n + 1) ∧ Fresh wx f f' ∧ Two (w.heap.size + 3) f.ownBlock wx w' := by
  refine (rows_add _ _ f l nm v wx C.rows C.size (by omega) (by have := C.len; omega)).mono ?_
  rintro e w' ⟨rfl, ⟨f', hR, hF⟩, hT⟩
  rw [h] at hR
  exact ⟨rfl, f', C.two hR hT (by rw [← h]; have := addL_len l nm v; have := C.len; omega), hF, hT⟩
theorem Ctx.some_ (C : Ctx w w0 wx f l n) (nm v : ByteArray) (l' : List Pr) (h : someL l nm v = l') (hn : n ≤ 1000000) :
    Calls Tryd.prog 18 #[.pointer (some ⟨w.heap.size + 3, 0, none⟩), .string nm, .string v] wx fun e w' => e = .returned (.tuple #[]) ∧ ∃ f', Ctx w w0 w' f' l' (n + 1) := by
  refine (rows_some _ _ f l nm v wx C.rows C.size (by omega) (by have := C.len; omega)).mono ?_
  rintro e w' ⟨rfl, ⟨f', hR, hF⟩, hT⟩
  rw [h] at hR
  exact ⟨rfl, f', C.two hR hT (by rw [← h]; have := someL_len l nm v; have := C.len; omega)⟩
theorem Ctx.fields (C : Ctx w w0 wx f l n) (A : Option Addr) (k c : Nat) (fl l' : List Pr) (h : (fieldsL fl).foldl (fun a p => addL a p.1 p.2) l = l') (hn : n ≤ 100000) (hk : fl.length = k) (hk9 : k ≤ 1000) (hp : Pairs w A fl) (hs : ∀ p ∈ fl, p.1.size ≤ 140737488351232 ∧ p.2.size ≤ 140737488351232) :
    Calls Tryd.prog 21 #[.pointer (some ⟨w.heap.size + 3, 0, none⟩), .slice A k c] wx fun e w' => e = .returned (.tuple #[]) ∧ ∃ f', Ctx w w0 w' f' l' l'.length := by
  refine (rows_fields _ _ f l A k c fl wx C.rows C.size (by omega) (by have := C.len; omega) hk hk9 (hp.fr C.old) hs).mono ?_
  rintro e w' ⟨rfl, ⟨f', hR, hF⟩, hT⟩
  rw [h] at hR
  exact ⟨rfl, f', C.two hR hT (Nat.le_refl _)⟩
theorem strs_two {w w' : World} {g : Nat} {r : Option Nat} {A : Option Addr} {l : List ByteArray} (h : Strs w A l) (hT : Two g r w w') (hA : ∀ x : Addr, A = some x → x.block ≠ g ∧ r ≠ some x.block) : Strs w' A l := fun h0 => by
  obtain ⟨b, off, rfl, hlt, hc⟩ := h h0
  obtain ⟨h1, h2⟩ := hA _ rfl
  have hk := hT.block b hlt h1 h2
  exact ⟨b, off, rfl, Nat.lt_of_lt_of_le hlt hT.size, fun k hk' => (World.cell?_of_block (a := ⟨b, _, none⟩) hk).trans (hc k hk')⟩
theorem addL_mono (l : List Pr) (a b : ByteArray) : l.length ≤ (addL l a b).length := by unfold addL; split <;> simp
theorem foldl_mono (x l : List Pr) : l.length ≤ (x.foldl (fun a p => addL a p.1 p.2) l).length := by
  induction x generalizing l with
  | nil => exact Nat.le_refl _
  | cons p x ih => rw [List.foldl_cons]; exact Nat.le_trans (addL_mono l p.1 p.2) (ih _)
theorem addL_pos (l : List Pr) (a b : ByteArray) : 0 < (addL l a b).length := by
  unfold addL
  split
  · rename_i h
    cases l with
    | nil => cases h
    | cons p l => simp
  · simp
def rouL (ns : List Pr) (l : List Pr) : List Pr := ns.foldl (fun a p => addL a (⟨#[82, 79, 85, 84, 69, 95]⟩ ++ greatB p.1) p.2) l
theorem rouL_mono (x l : List Pr) : l.length ≤ (rouL x l).length := by
  unfold rouL
  induction x generalizing l with
  | nil => exact Nat.le_refl _
  | cons p x ih => rw [List.foldl_cons]; exact Nat.le_trans (addL_mono l _ p.2) (ih _)
def ctL (vs : List ByteArray) (l : List Pr) : List Pr := vs.foldl (fun a v => addL a ⟨#[67, 79, 78, 84, 69, 78, 84, 95, 84, 89, 80, 69]⟩ v) l
structure Req where
  m : ByteArray
  tg : ByteArray
  mn : Int
  fl : List Pr
  bd : ByteArray
def L1 (r : Req) : List Pr := if r.bd.toList.isEmpty then [] else addL [] ⟨#[67, 79, 78, 84, 69, 78, 84, 95, 76, 69, 78, 71, 84, 72]⟩ (itoaB (r.bd.size : Int))
def L4 (r : Req) (inf : ByteArray) : List Pr := addL (someL (addL (ctL (getS r.fl ⟨#[67, 111, 110, 116, 101, 110, 116, 45, 84, 121, 112, 101]⟩) (L1 r)) ⟨#[71, 65, 84, 69, 87, 65, 89, 95, 73, 78, 84, 69, 82, 70, 65, 67, 69]⟩ ⟨#[67, 71, 73, 47, 49, 46, 49]⟩) ⟨#[80, 65, 84, 72, 95, 73, 78, 70, 79]⟩ inf) ⟨#[81, 85, 69, 82, 89, 95, 83, 84, 82, 73, 78, 71]⟩ (cutS r.tg 63).2.1
def L8 (cl : Int) (r : Req) (sc inf : ByteArray) : List Pr := addL (addL (addL (addL (L4 r inf) ⟨#[82, 69, 77, 79, 84, 69, 95, 65, 68, 68, 82]⟩ (⟨#[49, 48, 46, 48, 46, 48, 46]⟩ ++ itoaB (cl + 1))) ⟨#[82, 69, 81, 85, 69, 83, 84, 95, 77, 69, 84, 72, 79, 68]⟩ r.m) ⟨#[82, 69, 81, 85, 69, 83, 84, 95, 85, 82, 73]⟩ r.tg) ⟨#[83, 67, 82, 73, 80, 84, 95, 78, 65, 77, 69]⟩ sc
def L12 (nm : ByteArray) (p cl : Int) (r : Req) (sc inf : ByteArray) : List Pr := addL (addL (addL (addL (L8 cl r sc inf) ⟨#[83, 69, 82, 86, 69, 82, 95, 78, 65, 77, 69]⟩ (serverS nm r.fl)) ⟨#[83, 69, 82, 86, 69, 82, 95, 80, 79, 82, 84]⟩ (itoaB p)) ⟨#[83, 69, 82, 86, 69, 82, 95, 80, 82, 79, 84, 79, 67, 79, 76]⟩ (⟨#[72, 84, 84, 80, 47, 49, 46]⟩ ++ itoaB r.mn)) ⟨#[83, 69, 82, 86, 69, 82, 95, 83, 79, 70, 84, 87, 65, 82, 69]⟩ ⟨#[99, 111, 110, 100, 117, 105, 116]⟩
def buildL (nm : ByteArray) (p cl : Int) (r : Req) (sc inf : ByteArray) (ns : List Pr) : List Pr := (fieldsL r.fl).foldl (fun a p => addL a p.1 p.2) (rouL ns (L12 nm p cl r sc inf))
theorem buildL_pos (nm : ByteArray) (p cl : Int) (r : Req) (sc inf : ByteArray) (ns : List Pr) : 0 < (buildL nm p cl r sc inf ns).length :=
  Nat.lt_of_lt_of_le (Nat.lt_of_lt_of_le (addL_pos _ _ _) (rouL_mono ns _)) (foldl_mono _ _)
end Go.Proofs.YtdlignhlliellaaDoor
