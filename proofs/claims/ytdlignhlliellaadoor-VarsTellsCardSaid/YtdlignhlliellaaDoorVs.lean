/- vars.server. -/
import Derived.Test.YtdlignhlliellaaDoorVc
namespace Go.Proofs.YtdlignhlliellaaDoor
set_option linter.unusedVariables false
set_option linter.unusedSimpArgs false
open Go.RowKit

def serverS (name : ByteArray) (l : List Pr) : ByteArray := match getS l ⟨#[72, 111, 115, 116]⟩ with
  | [] => name
  | h :: _ => if (hostS h).toList.isEmpty then name else hostS h
def confC (nm : ByteArray) (p : Int) (rs : Value) (co id he bo ou ti ba : Int) : Array Value := #[.string nm, .int .i64 p, rs, .int .i64 co, .int .i64 id, .int .i64 he, .int .i64 bo, .int .i64 ou, .int .i64 ti, .int .i64 ba]
set_option maxRecDepth 100000 in
set_option maxHeartbeats 4000000 in
theorem vars_server (nm : ByteArray) (p : Int) (Ar : Option Addr) (nr cr : Nat) (co id he bo ou ti ba : Int) (m tg bd : ByteArray) (mn : Int) (A : Option Addr) (n c : Nat) (l : List Pr) (w : World)
    (hn : l.length = n) (hl : n ≤ 4398046511103) (hp : Pairs w A l) (hs : ∀ p ∈ l, p.1.size ≤ 9223372036854775807) (hv : ∀ p ∈ l, p.2.size ≤ 9223372036854775807) :
    Calls Tryd.prog 19 #[.agg (confC nm p (.slice Ar nr cr) co id he bo ou ti ba), .agg #[.string m, .string tg, .int .i64 mn, .slice A n c, .string bd]] w fun e w' => e = .returned (.string (serverS nm l)) ∧ Below w.heap.size w w' := by
  unfold confC
  have hb1 := Box.new w [.string nm, .int .i64 p, .slice Ar nr cr, .int .i64 co, .int .i64 id, .int .i64 he, .int .i64 bo, .int .i64 ou, .int .i64 ti, .int .i64 ba] 24
  have hf1 := fr_alloc (fr_refl w) (.cells #[.string nm, .int .i64 p, .slice Ar nr cr, .int .i64 co, .int .i64 id, .int .i64 he, .int .i64 bo, .int .i64 ou, .int .i64 ti, .int .i64 ba] 24)
  obtain ⟨W1, hW1⟩ : ∃ W1, w.alloc (.cells #[.string nm, .int .i64 p, .slice Ar nr cr, .int .i64 co, .int .i64 id, .int .i64 he, .int .i64 bo, .int .i64 ou, .int .i64 ti, .int .i64 ba] 24) = W1 := ⟨_, rfl⟩
  have c0 : W1.cell? ⟨w.heap.size, 0, none⟩ = some (.string nm) := hW1 ▸ hb1.2 0 _ rfl
  have hf1' : Below w.heap.size w W1 := hW1 ▸ hf1
  have hb2 := Box.new W1 [.string m, .string tg, .int .i64 mn, .slice A n c, .string bd] 27
  have hf2 := fr_alloc (fr_refl W1) (.cells #[.string m, .string tg, .int .i64 mn, .slice A n c, .string bd] 27)
  have d3 : (W1.alloc (.cells #[.string m, .string tg, .int .i64 mn, .slice A n c, .string bd] 27)).cell? ⟨W1.heap.size, 3, none⟩ = some (.slice A n c) := hb2.2 3 _ rfl
  have C0 := Lib.hid (fr_cell hf2 c0)
  have H2 := Lib.hid (fr_trans hf1' hf2)
  have hget := field_Get A c n l ⟨#[72, 111, 115, 116]⟩ _ hn hl ((hp.fr hf1').fr hf2) (by decide) hs
  have hgv : ∀ x ∈ getS l ⟨#[72, 111, 115, 116]⟩, x.size ≤ 9223372036854775807 := fun x hx => by
    unfold getS at hx
    obtain ⟨q, hq, rfl⟩ := List.mem_map.1 hx
    exact hv q (List.mem_filter.1 hq).1
  have hR : serverS nm l = match getS l ⟨#[72, 111, 115, 116]⟩ with | [] => nm | h :: _ => if (hostS h).toList.isEmpty then nm else hostS h := rfl
  obtain ⟨R, hRR⟩ : ∃ R, serverS nm l = R := ⟨_, rfl⟩
  obtain ⟨vs, hvs⟩ : ∃ v, getS l ⟨#[72, 111, 115, 116]⟩ = v := ⟨_, rfl⟩
  rw [hvs] at hget hgv hR
  rw [hRR] at hR ⊢
  have HGET := Lib.hid hget
  clear hb1 hf1 c0 hf1' hb2 hf2 hget hvs hRR hp hs hv hn hl
  rcases vs with _ | ⟨h, t⟩
  · have hR' : R = nm := hR
    subst hR'
    clear hR
    go_enter Tryd.func19, Tryd.ntmps19
    go_wp2_with fail
    refine HGET.out.mono ?_
    rintro e w2 ⟨⟨A2, c2, rfl, hS, -⟩, hb2⟩
    have e0 := fr_cell hb2 C0.out
    have H3 := Lib.hid (fr_trans H2.out hb2)
    clear hS hb2 d3
    go_wp2
    go_loop [12] (fun i => i = .int .i64 0) (fun _ => 0)
    case atStart => rfl
    case round =>
      subst hrel
      go_wp2
      all_goals
        go_ret
        exact ⟨rfl, H3.out⟩
  · obtain ⟨k, hk⟩ : ∃ k, (h :: t).length = k := ⟨_, rfl⟩
    have hk0 : (0 : Int) < (k : Int) := by rw [← hk, List.length_cons]; omega
    have hh := hgv h (by simp)
    rw [hk] at HGET
    have HH := Lib.hid hh; have HK := Lib.hid hk
    clear hgv hh hk
    have hcase : ((hostS h).toList.isEmpty = true ∧ R = nm) ∨ ((hostS h).toList.isEmpty = false ∧ R = hostS h) := by
      have hR2 : R = if (hostS h).toList.isEmpty = true then nm else hostS h := hR
      cases hq : (hostS h).toList.isEmpty
      · rw [hq, if_neg (by decide)] at hR2; exact .inr ⟨rfl, hR2⟩
      · rw [hq, if_pos rfl] at hR2; exact .inl ⟨rfl, hR2⟩
    clear hR
    have HHO := Lib.hid (fun W => rule_Host h W HH.out)
    obtain ⟨z, hz⟩ : ∃ z, hostS h = z := ⟨_, rfl⟩
    rw [hz] at HHO hcase
    clear hz
    rcases hcase with ⟨hq, rfl⟩ | ⟨hq, rfl⟩
    all_goals
      go_enter Tryd.func19, Tryd.ntmps19
      go_wp2_with fail
      refine HGET.out.mono ?_
      rintro e w2 ⟨⟨A2, c2, rfl, hS, -⟩, hb2⟩
      have H3 := Lib.hid (fr_trans H2.out hb2)
      obtain ⟨b, off, rfl, hbl, hc⟩ := hS.at_ (k := 0) (by simp)
      have hc' : w2.cell? ⟨b, off, none⟩ = some (.string h) := hc
      have E0 := Lib.hid (fr_cell hb2 C0.out)
      clear hS hb2 d3 hc
      go_wp2
      go_loop [12] (fun i => i = .int .i64 0) (fun _ => 0)
      case atStart => rfl
      case round =>
        subst hrel
        go_wp2_with fail
        refine (HHO.out _).mono ?_
        rintro e w3 ⟨rfl, hb3⟩
        have e0 := fr_cell hb3 E0.out
        have H4 := Lib.hid (fr_trans H3.out hb3)
        clear hb3
        go_wp2
        all_goals
          go_ret
          exact ⟨rfl, H4.out⟩
end Go.Proofs.YtdlignhlliellaaDoor
