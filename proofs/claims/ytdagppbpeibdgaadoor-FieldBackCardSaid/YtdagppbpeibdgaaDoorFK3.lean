/- conduitlaw6.FieldBack: true of every input; and what the row's reading gives of a struct of two fields. -/
import Derived.Test.YtdagppbpeibdgaaDoorFK2b
import Derived.Test.YtdagppbpeibdgaaDoorFK2c
import Derived.Test.YtdagppbpeibdgaaDoorOpen
namespace Go.Proofs.YtdagppbpeibdgaaDoor
set_option linter.unusedVariables false
set_option linter.unusedSimpArgs false
open Go.Joins Go.ChangeShapes Go.WideShapes Go.RowKit Go.Deep

section
variable {H : Type} {enc : TypeId × Value → H} {P : Program} {w : World} {base : Nat} {spare : Nat → Bool} {held : Bool}
theorem open_agg2 {r : Reach} {b0 : Nat} {t : TypeId} {f0 f1 : Field} {v : Value} {d : DataW H} {p : List MemPlace} (hs : P.underlying t = some (.struct #[f0, f1])) (hone : oneCellFields P #[f0, f1] = true) (hC : P.cellsOf t = 2)
    (hv : Value.okWide P w r b0 t v) (h : DataW.Trod enc P w base spare held t v d p) :
    ∃ (v0 v1 : Value) (y0 y1 : DataW H × List MemPlace) (n : Nat), v = .agg #[v0, v1] ∧ d = .agg [y0.1, y1.1] ∧ p = y0.2 ++ y1.2 ∧
      DataW.trod enc P w base spare held n f0.type [v0] = some y0 ∧ DataW.trod enc P w base spare held n f1.type [v1] = some y1 := by
  obtain ⟨cs, rfl, hsz⟩ := okWide_struct hs hv
  obtain ⟨l⟩ := cs
  match l, hsz.trans hC with
  | [c0, c1], _ =>
    obtain ⟨fuel, hf⟩ := h
    obtain ⟨xs, n, _, hx, _, hlen, hg⟩ := DataW.trod_struct hs hf
    obtain ⟨o0, k0⟩ := hone_of hone 0 f0 rfl
    obtain ⟨o1, k1⟩ := hone_of hone 1 f1 rfl
    match xs, hlen with
    | [y0, y1], _ =>
      simp only [Prod.mk.injEq] at hx
      exact ⟨c0, c1, y0, y1, n, rfl, by simpa using hx.1, by simpa using hx.2, by simpa [Value.cells, o0, k0] using hg 0 f0 rfl, by simpa [Value.cells, o1, k1] using hg 1 f1 rfl⟩
end
theorem law6_back (A : Option Addr) (c k : Nat) (l : List Pr) (n v : ByteArray) (x y : Int) (w : World) (hm : MaxL w) (hk : l.length = k) (hp : Pairs w A l) (hs : ∀ p ∈ l, p.1.size ≤ 9223372036854775807) (hn9 : n.size ≤ 9223372036854775807) (hv9 : v.size ≤ 9223372036854775807)
    (x0 : 0 ≤ x) (x1 : x ≤ 255) (y0 : 0 ≤ y) (y1 : y ≤ 255) :
    Calls Tryd.prog 3 #[.agg #[.string n, .string v], .slice A k c, .int .u8 x, .int .u8 y] w fun e w' => e = .returned (.bool true) ∧ Below w.heap.size w w' := by
  by_cases hgo : fieldOk n v = true ∧ k ≤ 20
  · by_cases hk0 : 0 < k
    · exact back_ok A c k l n v x y (x % 5).toNat (y % 5).toNat w hm hk hp hs hgo.1 hgo.2 hk0 (by omega) (by omega) (by omega) (by omega) x0 x1 y0 y1
    · rcases A with _ | ad
      · exact back_nil_none c k l n v x y (x % 5).toNat (y % 5).toNat w hm hk hp hs hgo.1 hgo.2 (by omega) (by omega) (by omega) (by omega) (by omega) x0 x1 y0 y1
      · exact back_nil_some ad c k l n v x y (x % 5).toNat (y % 5).toNat w hm hk hp hs hgo.1 hgo.2 (by omega) (by omega) (by omega) (by omega) (by omega) x0 x1 y0 y1
  · have HM := Lib.hid hm
    have HX0 := Lib.hid (Box.new w [.string n, .string v] 23)
    have H0 := Lib.hid (fr_alloc (fr_refl w) (.cells #[.string n, .string v] 23))
    obtain ⟨b, hb⟩ : ∃ b, fieldOk n v = b := ⟨_, rfl⟩
    have HOK := Lib.hid hb
    have hcase : b = false ∨ (b = true ∧ (20 : Int) < (k : Int)) := by
      cases b
      · exact .inl rfl
      · refine .inr ⟨rfl, ?_⟩
        have : ¬ k ≤ 20 := fun h => hgo ⟨hb, h⟩
        omega
    clear hm hk hp hs hgo hb
    rcases hcase with rfl | ⟨rfl, k20⟩
    all_goals
      go_enter Tryd.func3, Tryd.ntmps3
      go_wp2_with fail
      refine (law6_known _ (HM.out.fr H0.out)).mono ?_
      rintro e w1 ⟨rfl, hb1⟩
      have hx1 := HX0.out.fr hb1
      have ac0 : w1.cell? ⟨w.heap.size, 0, none⟩ = some (.string n) := hx1.2 0 _ rfl
      have ac1 : w1.cell? ⟨w.heap.size, 1, none⟩ = some (.string v) := hx1.2 1 _ rfl
      have alt : w.heap.size < w1.heap.size := hx1.1
      have H1 := Lib.hid (fr_trans H0.out hb1)
      clear hb1 hx1
      go_wp2_with fail
      refine (is_at6 n v _ _ HOK.out hn9 hv9).mono ?_
      rintro e w2 ⟨rfl, hb2⟩
      have H2 := Lib.hid (fr_trans H1.out hb2)
      clear hb2
      go_wp2
      go_ret
      exact ⟨rfl, H2.out⟩
end Go.Proofs.YtdagppbpeibdgaaDoor
