/- conduitlaw12.RuleWares: true. -/
import Derived.Test.YtoplnepbjjcbcaaGreatDoorRuI
import Derived.Deep.Cut
import Derived.Laws.Tables
import Derived.Laws.CopyOwn
namespace Go.Proofs.YtoplnepbjjcbcaaGreatDoor
set_option linter.unusedVariables false
set_option linter.unusedSimpArgs false
open Go.RowKit

theorem wpList_store_new {P : Program} {ops : Array Oper} {rest : List Oper} {o : Oper} {a : Act} {Q : Exit → Act → World → Prop} (hgd : o.guard = none) (ty : TypeId) (x y : Operand) (ho : o.op = .store ty x y)
    (w : World) (cells : Array Value) (hx : a.eval x = .pointer (some ⟨w.heap.size, 0, none⟩)) (hy : a.eval y = .agg cells) (t : TypeId) (old : Array Value) (hi : (P.info? ty).map (·.size) = some cells.size)
    (hold : old.size = cells.size) (h1 : cells.all (·.oneCell') = true)
    (h : ∀ W, Below w.heap.size w W → Blk W w.heap.size t cells → wpList P ops Q rest (a.put o.dst undef) W) : wpList P ops Q (o :: rest) a (w.alloc (.cells old t)) :=
  wpList_store_row hgd ty x y ho w.heap.size cells hx hy t old (heap_alloc_new w _) hi hold h1 (h _ (below_setRow (fr_alloc (fr_refl _) _) (Nat.le_refl _) _) (setRow_heap _ _ _ _ _ _ (heap_alloc_new w _)))
def fieldOkE (a b : ByteArray) : Bool := allE isTokB a && Nat.ble a.size 64 && (L b).all valB && Nat.ble b.size 512 && (L (octTrim b) == L b)
theorem fieldOkE_eq (a b : ByteArray) : fieldOk a b = fieldOkE a b := by
  unfold fieldOk fieldOkE nameE valE
  rw [allE_eq, eqB_L]
  cases h1 : allE isTokB a
  · rfl
  · by_cases h2 : 64 < a.size
    · rw [ble_no (show ¬ a.size ≤ 64 by omega)]; simp [h2]
    · rw [ble_yes (show a.size ≤ 64 by omega)]
      cases h3 : (L b).all valB
      · simp [h2]
      · by_cases h4 : 512 < b.size
        · rw [ble_no (show ¬ b.size ≤ 512 by omega)]; simp [h2, h4]
        · rw [ble_yes (show b.size ≤ 512 by omega)]; simp [h2, h4]
def wareOkE (r : WV) : Bool :=
  if r.kind = 1 then methOkE r.a else if r.kind = 2 then fieldOkE r.a r.b else if r.kind = 3 then allE isTokB r.a && Nat.ble r.a.size 64
  else if r.kind = 4 then cleanOkE r.a && cleanOkE r.b else if r.kind = 5 then decide (0 ≤ r.n) && decide (r.n ≤ 4000) else false
theorem wareOkE_eq (r : WV) : wareOk r = wareOkE r := by
  unfold wareOk wareOkE
  rw [methOkE_eq, fieldOkE_eq, allE_eq, cleanOkE_eq, cleanOkE_eq]
def gW : List WV := [⟨1, ⟨#[71, 69, 84]⟩, ⟨#[]⟩, 0⟩, ⟨2, ⟨#[88]⟩, ⟨#[121, 32, 122]⟩, 0⟩, ⟨3, ⟨#[88]⟩, ⟨#[]⟩, 0⟩, ⟨4, ⟨#[47, 97]⟩, ⟨#[47]⟩, 0⟩, ⟨5, ⟨#[]⟩, ⟨#[]⟩, 0⟩, ⟨5, ⟨#[]⟩, ⟨#[]⟩, 4000⟩]
def bW : List WV := [⟨1, ⟨#[32, 44, 32]⟩, ⟨#[]⟩, 0⟩, ⟨1, ⟨#[71, 32, 84]⟩, ⟨#[]⟩, 0⟩, ⟨2, ⟨#[88]⟩, ⟨#[32, 121]⟩, 0⟩, ⟨2, ⟨#[88, 32, 89]⟩, ⟨#[]⟩, 0⟩, ⟨3, ⟨#[]⟩, ⟨#[]⟩, 0⟩, ⟨4, ⟨#[97]⟩, ⟨#[47]⟩, 0⟩, ⟨4, ⟨#[47]⟩, ⟨#[47, 46, 46, 47, 120]⟩, 0⟩, ⟨5, ⟨#[]⟩, ⟨#[]⟩, -1⟩, ⟨5, ⟨#[]⟩, ⟨#[]⟩, 4001⟩]
theorem gAll : gW.all wareOkE = true := by kernel_rfl
theorem bAll : bW.all (fun r => !wareOkE r) = true := by kernel_rfl
theorem gSz : ∀ r ∈ gW, r.a.size ≤ 2000000 ∧ r.b.size ≤ 2000000 := by
  intro r hr
  simp only [gW, List.mem_cons, List.not_mem_nil, or_false] at hr
  rcases hr with rfl | rfl | rfl | rfl | rfl | rfl <;> exact ⟨by decide, by decide⟩
theorem bSz : ∀ r ∈ bW, r.a.size ≤ 2000000 ∧ r.b.size ≤ 2000000 := by
  intro r hr
  simp only [bW, List.mem_cons, List.not_mem_nil, or_false] at hr
  rcases hr with rfl | rfl | rfl | rfl | rfl | rfl | rfl | rfl | rfl <;> exact ⟨by decide, by decide⟩
theorem pathRoot : pathOk 3 ⟨#[47]⟩ = true := by rw [pathOkE_eq]; kernel_rfl
theorem hostNil : hostOk ⟨#[]⟩ = true := by kernel_rfl
theorem is_one (r : WV) (v : Bool) (h : wareOk r = v) : isOkW 3 ⟨#[]⟩ ⟨#[47]⟩ 0 1 [r] = v := by
  unfold isOkW; rw [pathRoot, hostNil]; simp [h]
theorem is_full (v : Bool) (k : Int) (h p : ByteArray) (b n : Int) (A : Option Addr) (m c : Nat) (ws : List WV) (w : World) (he : isOkW k h p b n ws = v) (hn : ws.length = m) (hw : Wares w A ws) (hm : MaxL w) (hh : h.size ≤ 1000000000) (hp : p.size ≤ 2000000)
    (hws : ∀ r ∈ ws, r.a.size ≤ 2000000 ∧ r.b.size ≤ 2000000) (hm9 : m ≤ 9223372036854775807) :
    Calls Tryz.prog 18 #[.agg #[.int .i64 k, .string h, .string p, .int .i64 b, .slice A m c], .int .i64 n] w fun e w' => e = .returned (confR v) ∧ Below w.heap.size w w' := he ▸ rule_Is k h p b n A m c ws w hn hw hm hh hp hws hm9
def wcells (l : List WV) : List Value := l.flatMap WV.cells
theorem wcells_at : ∀ (l : List WV) k (h : k < l.length) j v, l[k].cells[j]? = some v → (wcells l)[k * 4 + j]? = some v
  | [], k, h, _, _, _ => by simp at h
  | r :: l, 0, _, j, v, hv => by
    have hj : j < 4 := by
      rcases Nat.lt_or_ge j 4 with h | h
      · exact h
      · rw [List.getElem?_eq_none (by simpa [WV.cells] using h)] at hv; cases hv
    have hv' : r.cells[j]? = some v := hv
    simp only [wcells, List.flatMap_cons]
    rw [List.getElem?_append_left (by simp [WV.cells]; omega), Nat.zero_mul, Nat.zero_add]; exact hv'
  | r :: l, k + 1, h, j, v, hv => by
    have := wcells_at l k (by simpa using h) j v hv
    simp only [wcells, List.flatMap_cons]
    rw [List.getElem?_append_right (by simp [WV.cells]; omega)]
    rw [show (k + 1) * 4 + j - r.cells.length = k * 4 + j by simp [WV.cells]; omega]
    exact this
/-- the worlds behind the two arrays: the rule, the ware, the slice of it -/
def wA1 (W : World) : World := W.alloc (.cells #[.int .i64 3, .string ⟨#[]⟩, .string ⟨#[47]⟩, .int .i64 0, .slice (some ⟨W.heap.size + 1 + 1, 0, none⟩) 1 1] 40)
def wA2 (W : World) (r : WV) : World := (wA1 W).alloc (.cells #[.int .i64 r.kind, .string r.a, .string r.b, .int .i64 r.n] 45)
def wA3 (W : World) (r : WV) : World := (wA2 W r).alloc (.cells #[.int .i64 r.kind, .string r.a, .string r.b, .int .i64 r.n] 45)
theorem wA_fr (W : World) (r : WV) : Below W.heap.size W (wA3 W r) := fr_alloc (fr_alloc (fr_alloc (fr_refl _) _) _) _
theorem wA_rule (W : World) (r : WV) : Box (wA3 W r) W.heap.size [.int .i64 3, .string ⟨#[]⟩, .string ⟨#[47]⟩, .int .i64 0, .slice (some ⟨W.heap.size + 1 + 1, 0, none⟩) 1 1] :=
  ((Box.new W [.int .i64 3, .string ⟨#[]⟩, .string ⟨#[47]⟩, .int .i64 0, .slice (some ⟨W.heap.size + 1 + 1, 0, none⟩) 1 1] 40).fr (fr_alloc (fr_refl _) _)).fr (fr_alloc (fr_refl _) _)
theorem wA_ware (W : World) (r : WV) : Box (wA3 W r) (W.heap.size + 1 + 1) r.cells := Box.newAt (w := wA2 W r) (by simp [wA1, wA2]) r.cells 45
set_option maxRecDepth 100000 in
set_option maxHeartbeats 4000000 in
theorem wares_walk (x : Int) (r i q : Nat) (w : World) (hm : MaxL w) (hr : x % 2 = (r : Int)) (hi6 : x / 2 % 6 = (i : Int)) (hq9 : x / 2 % 9 = (q : Int)) (hr2 : r < 2) (hi : i < 6) (hq : q < 9) (x0 : 0 ≤ x) (x1 : x ≤ 255) :
    Calls Tryz.prog 5 #[.int .u8 x] w fun e w' => e = .returned (.bool true) ∧ Below w.heap.size w w' := by
  have HM := Lib.hid hm; clear hm
  have hgl : i < gW.length := hi
  have hbl : q < bW.length := hq
  obtain ⟨gi, hgi⟩ : ∃ r, gW[i] = r := ⟨_, rfl⟩
  obtain ⟨bq, hbq⟩ : ∃ r, bW[q] = r := ⟨_, rfl⟩
  have hgo : wareOk gi = true := by rw [wareOkE_eq, ← hgi]; exact List.all_eq_true.1 gAll _ (List.getElem_mem hgl)
  have hbo : wareOk bq = false := by
    have := List.all_eq_true.1 bAll _ (List.getElem_mem hbl)
    rw [wareOkE_eq, ← hbq]; simpa using this
  have hgs := gSz gi (by rw [← hgi]; exact List.getElem_mem hgl)
  have hbs := bSz bq (by rw [← hbq]; exact List.getElem_mem hbl)
  have hgc := fun j v h => wcells_at gW i hgl j v h
  have hbc := fun j v h => wcells_at bW q hbl j v h
  rw [hgi] at hgc; rw [hbq] at hbc
  have HGO := Lib.hid hgo; have HBO := Lib.hid hbo; have HGS := Lib.hid hgs; have HBS := Lib.hid hbs; have HGC := Lib.hid hgc; have HBC := Lib.hid hbc
  clear hgo hbo hgs hbs hgc hbc hgi hbq
  go_enter Tryz.func5, Tryz.ntmps5
  go_wp2_with fail
  refine (law12_known _ HM.out).mono ?_
  rintro e w1 ⟨rfl, hb1⟩
  have hr' : r = 0 ∨ r = 1 := by omega
  rcases hr' with rfl | rfl
  · clear hq9
    go_upto_region 4 with (refine wpList_store_new rfl 46 (.tmp 3) (.tmp 16) rfl w1 (wcells gW).toArray rfl rfl 46 _ (by kernel_rfl) (by kernel_rfl) (by kernel_rfl) ?_; intro W hWb hWB; have HWB := Lib.hid hWB; have HB1 := Lib.hid (fr_trans hb1 hWb); clear hWB hWb hb1)
    go_upto_region 5 with (refine wpList_store_new rfl 47 (.tmp 4) (.tmp 26) rfl W (wcells bW).toArray rfl rfl 47 _ (by kernel_rfl) (by kernel_rfl) (by kernel_rfl) ?_; intro W2 hWb2 hWB2; have HWB1 := Lib.hid (HWB.out.fr hWb2); have HB2 := Lib.hid (fr_trans HB1.out hWb2); clear hWB2 hWb2)
    have c0 : W2.cell? ⟨w1.heap.size, i * 4, none⟩ = some (.int .i64 gi.kind) := by rw [HWB1.out.cell]; simpa using HGC.out 0 _ rfl
    have c1 : W2.cell? ⟨w1.heap.size, i * 4 + 1, none⟩ = some (.string gi.a) := by rw [HWB1.out.cell]; simpa using HGC.out 1 _ rfl
    have c2 : W2.cell? ⟨w1.heap.size, i * 4 + 2, none⟩ = some (.string gi.b) := by rw [HWB1.out.cell]; simpa using HGC.out 2 _ rfl
    have c3 : W2.cell? ⟨w1.heap.size, i * 4 + 3, none⟩ = some (.int .i64 gi.n) := by rw [HWB1.out.cell]; simpa using HGC.out 3 _ rfl
    have clt := HWB1.out.lt
    have iI : (i : Int) < 6 := by omega
    have i0 : (0 : Int) ≤ (i : Int) := by omega
    have hz := HGS.out
    obtain ⟨gk, ga, gb, gn⟩ := gi
    simp only at c0 c1 c2 c3 hz
    have HZ := Lib.hid hz
    have HW3 := Lib.hid (fr_trans HB2.out (wA_fr W2 ⟨gk, ga, gb, gn⟩))
    have HR3 := Lib.hid (wA_rule W2 ⟨gk, ga, gb, gn⟩)
    have HV3 := Lib.hid (wA_ware W2 ⟨gk, ga, gb, gn⟩)
    clear hz HGC HBC HBO HBS HGS hgl hbl HB1 HWB
    go_wp2_with fail
    refine (rule_Ware_at ⟨gk, ga, gb, gn⟩ true _ HGO.out (HM.out.fr HW3.out) HZ.out.1 HZ.out.2).mono ?_
    rintro e w3 ⟨rfl, hb3⟩
    have x3 := HR3.out.fr hb3
    have rc0 : w3.cell? ⟨W2.heap.size, 0, none⟩ = some (.int .i64 3) := x3.2 0 _ rfl
    have rc1 : w3.cell? ⟨W2.heap.size, 1, none⟩ = some (.string ⟨#[]⟩) := x3.2 1 _ rfl
    have rc2 : w3.cell? ⟨W2.heap.size, 2, none⟩ = some (.string ⟨#[47]⟩) := x3.2 2 _ rfl
    have rc3 : w3.cell? ⟨W2.heap.size, 3, none⟩ = some (.int .i64 0) := x3.2 3 _ rfl
    have rc4 : w3.cell? ⟨W2.heap.size, 4, none⟩ = some (.slice (some ⟨W2.heap.size + 1 + 1, 0, none⟩) 1 1) := x3.2 4 _ rfl
    have rlt : W2.heap.size < w3.heap.size := x3.1
    have HV4 := Lib.hid (HV3.out.fr hb3)
    have HW4 := Lib.hid (fr_trans HW3.out hb3)
    clear hb3 x3 c0 c1 c2 c3 clt
    unfold confR
    go_wp2_with fail
    refine (is_full true 3 ⟨#[]⟩ ⟨#[47]⟩ 0 1 (some ⟨W2.heap.size + 1 + 1, 0, none⟩) 1 1 [⟨gk, ga, gb, gn⟩] _ (is_one _ _ HGO.out) rfl (Wares.one _ HV4.out) (HM.out.fr HW4.out) (by decide) (by decide) (by intro r hr; rw [List.mem_singleton.1 hr]; exact HZ.out) (by decide)).mono ?_
    rintro e w4 ⟨rfl, hb4⟩
    unfold confR
    go_wp2
    go_ret
    exact ⟨rfl, fr_trans HW4.out hb4⟩
  · clear hi6
    go_upto_region 4 with (refine wpList_store_new rfl 46 (.tmp 3) (.tmp 16) rfl w1 (wcells gW).toArray rfl rfl 46 _ (by kernel_rfl) (by kernel_rfl) (by kernel_rfl) ?_; intro W hWb hWB; have HWB := Lib.hid hWB; have HB1 := Lib.hid (fr_trans hb1 hWb); clear hWB hWb hb1)
    go_upto_region 5 with (refine wpList_store_new rfl 47 (.tmp 4) (.tmp 26) rfl W (wcells bW).toArray rfl rfl 47 _ (by kernel_rfl) (by kernel_rfl) (by kernel_rfl) ?_; intro W2 hWb2 hWB2; have HWB1 := Lib.hid hWB2; have HB2 := Lib.hid (fr_trans HB1.out hWb2); clear hWB2 hWb2)
    have c0 : W2.cell? ⟨W.heap.size, q * 4, none⟩ = some (.int .i64 bq.kind) := by rw [HWB1.out.cell]; simpa using HBC.out 0 _ rfl
    have c1 : W2.cell? ⟨W.heap.size, q * 4 + 1, none⟩ = some (.string bq.a) := by rw [HWB1.out.cell]; simpa using HBC.out 1 _ rfl
    have c2 : W2.cell? ⟨W.heap.size, q * 4 + 2, none⟩ = some (.string bq.b) := by rw [HWB1.out.cell]; simpa using HBC.out 2 _ rfl
    have c3 : W2.cell? ⟨W.heap.size, q * 4 + 3, none⟩ = some (.int .i64 bq.n) := by rw [HWB1.out.cell]; simpa using HBC.out 3 _ rfl
    have clt := HWB1.out.lt
    have iI : (q : Int) < 9 := by omega
    have i0 : (0 : Int) ≤ (q : Int) := by omega
    have hz := HBS.out
    obtain ⟨gk, ga, gb, gn⟩ := bq
    simp only at c0 c1 c2 c3 hz
    have HZ := Lib.hid hz
    have HW3 := Lib.hid (fr_trans HB2.out (wA_fr W2 ⟨gk, ga, gb, gn⟩))
    have HR3 := Lib.hid (wA_rule W2 ⟨gk, ga, gb, gn⟩)
    have HV3 := Lib.hid (wA_ware W2 ⟨gk, ga, gb, gn⟩)
    clear hz HGC HBC HGO HBS HGS hgl hbl HB1 HWB HWB1
    go_wp2_with fail
    refine (rule_Ware_at ⟨gk, ga, gb, gn⟩ false _ HBO.out (HM.out.fr HW3.out) HZ.out.1 HZ.out.2).mono ?_
    rintro e w3 ⟨rfl, hb3⟩
    have x3 := HR3.out.fr hb3
    have rc0 : w3.cell? ⟨W2.heap.size, 0, none⟩ = some (.int .i64 3) := x3.2 0 _ rfl
    have rc1 : w3.cell? ⟨W2.heap.size, 1, none⟩ = some (.string ⟨#[]⟩) := x3.2 1 _ rfl
    have rc2 : w3.cell? ⟨W2.heap.size, 2, none⟩ = some (.string ⟨#[47]⟩) := x3.2 2 _ rfl
    have rc3 : w3.cell? ⟨W2.heap.size, 3, none⟩ = some (.int .i64 0) := x3.2 3 _ rfl
    have rc4 : w3.cell? ⟨W2.heap.size, 4, none⟩ = some (.slice (some ⟨W2.heap.size + 1 + 1, 0, none⟩) 1 1) := x3.2 4 _ rfl
    have rlt : W2.heap.size < w3.heap.size := x3.1
    have HV4 := Lib.hid (HV3.out.fr hb3)
    have HW4 := Lib.hid (fr_trans HW3.out hb3)
    clear hb3 x3 c0 c1 c2 c3 clt
    unfold confR
    go_wp2_with fail
    refine (is_errno 14 14 _).mono ?_
    rintro e w7 ⟨rfl, rfl⟩
    go_wp2_with fail
    refine (is_full false 3 ⟨#[]⟩ ⟨#[47]⟩ 0 1 (some ⟨W2.heap.size + 1 + 1, 0, none⟩) 1 1 [⟨gk, ga, gb, gn⟩] _ (is_one _ _ HBO.out) rfl (Wares.one _ HV4.out) (HM.out.fr HW4.out) (by decide) (by decide) (by intro r hr; rw [List.mem_singleton.1 hr]; exact HZ.out) (by decide)).mono ?_
    rintro e w4 ⟨rfl, hb4⟩
    unfold confR
    go_wp2_with fail
    refine (is_errno 14 14 _).mono ?_
    rintro e w7 ⟨rfl, rfl⟩
    go_wp2
    go_ret
    exact ⟨rfl, fr_trans HW4.out hb4⟩
theorem law12_wares (x : Int) (w : World) (hm : MaxL w) (x0 : 0 ≤ x) (x1 : x ≤ 255) :
    Calls Tryz.prog 5 #[.int .u8 x] w fun e w' => e = .returned (.bool true) ∧ Below w.heap.size w w' :=
  wares_walk x (x % 2).toNat (x / 2 % 6).toNat (x / 2 % 9).toNat w hm (by omega) (by omega) (by omega) (by omega) (by omega) (by omega) x0 x1
end Go.Proofs.YtoplnepbjjcbcaaGreatDoor
