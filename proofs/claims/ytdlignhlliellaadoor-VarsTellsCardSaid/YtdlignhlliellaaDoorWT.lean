/- conduitlaw15.VarsTells: it is true of every configuration, client, request, route and name. -/
import Derived.Test.YtdlignhlliellaaDoorWV
namespace Go.Proofs.YtdlignhlliellaaDoor
set_option linter.unusedVariables false
set_option linter.unusedSimpArgs false
open Go.RowKit

theorem build_tells (nm : ByteArray) (p : Int) (Ar : Option Addr) (nr cr : Nat) (co id he bo ou ti ba cl : Int) (m tg : ByteArray) (mn : Int) (fl : List Pr) (bd : ByteArray) (A : Option Addr) (n c : Nat) (ru : Int) (sc inf : ByteArray) (An : Option Addr) (nn cn : Nat) (ns L : List Pr) (z : Nat) (w : World) (hT : Tab w) (hL : varsR nm p cl ⟨m, tg, mn, fl, bd⟩ sc inf ns = L) (hz : L.length = z) (hn : fl.length = n) (hn9 : n ≤ 20) (hp : Pairs w A fl) (hs : ∀ p ∈ fl, p.1.size ≤ 140737488351232 ∧ p.2.size ≤ 140737488351232) (hnn : ns.length = nn) (hnn9 : nn ≤ 10) (hpn : Pairs w An ns) (hsn : ∀ p ∈ ns, p.1.size ≤ 140737488351232 ∧ p.2.size ≤ 140737488351232)
    (htz : tg.size ≤ 500) (hbz : bd.size ≤ 9223372036854775807) (hp1 : -9223372036854775808 ≤ p) (hp2 : p ≤ 9223372036854775807) (hc1 : 0 ≤ cl) (hc2 : cl ≤ 1000000) (hm1 : -9223372036854775808 ≤ mn) (hm2 : mn ≤ 9223372036854775807) :
    Calls Tryd.prog 7 #[.agg #[.string nm, .int .i64 p, .slice Ar nr cr, .int .i64 co, .int .i64 id, .int .i64 he, .int .i64 bo, .int .i64 ou, .int .i64 ti, .int .i64 ba], .int .i64 cl, .agg #[.string m, .string tg, .int .i64 mn, .slice A n c, .string bd], .agg #[.int .i64 ru, .string sc, .string inf, .slice An nn cn]] w fun e w' => (∃ A' c', e = .returned (.slice A' z c') ∧ Pairs w' A' L) ∧ Below w.heap.size w w' := by
  have hl := buildL_len nm p cl ⟨m, tg, mn, fl, bd⟩ sc inf ns (by show fl.length ≤ 20; omega) (by omega)
  refine (vars_Build nm p Ar nr cr co id he bo ou ti ba cl m tg mn fl bd A n c ru sc inf An nn cn ns w hT hn (by omega) hp hs hnn (by omega) hpn hsn (by omega) hbz hp1 hp2 hc1 hc2 hm1 hm2 (by omega)).mono fun e w' h => ?_
  obtain ⟨⟨A', n', c', l', h1, h2, h3, h4, h5, h6⟩, hb⟩ := h
  have e1 := tells_law h5 h6
  rw [hL] at e1
  subst e1
  rw [← h2, hz] at h1
  exact ⟨⟨A', c', h1, h3⟩, hb⟩
theorem vars_tells (nm : ByteArray) (p : Int) (Ar : Option Addr) (nr cr : Nat) (co id he bo ou ti ba cl : Int) (m tg : ByteArray) (mn : Int) (fl : List Pr) (bd : ByteArray) (A : Option Addr) (n c : Nat) (ru : Int) (sc inf : ByteArray) (An : Option Addr) (nn cn : Nat) (ns L : List Pr) (z : Nat) (w : World) (hL : varsR nm p cl ⟨m, tg, mn, fl, bd⟩ sc inf ns = L) (hz : L.length = z) (hn : fl.length = n) (hn9 : n ≤ 20) (hp : Pairs w A fl) (hs : ∀ p ∈ fl, p.1.size ≤ 140737488351232 ∧ p.2.size ≤ 140737488351232) (hnn : ns.length = nn) (hnn9 : nn ≤ 10) (hpn : Pairs w An ns) (hsn : ∀ p ∈ ns, p.1.size ≤ 140737488351232 ∧ p.2.size ≤ 140737488351232)
    (htz : tg.size ≤ 500) (hbz : bd.size ≤ 9223372036854775807) (hp1 : -9223372036854775808 ≤ p) (hp2 : p ≤ 9223372036854775807) (hc1 : 0 ≤ cl) (hc2 : cl ≤ 1000000) (hm1 : -9223372036854775808 ≤ mn) (hm2 : mn ≤ 9223372036854775807) :
    Calls Tryd.prog 8 #[.agg #[.string nm, .int .i64 p, .slice Ar nr cr, .int .i64 co, .int .i64 id, .int .i64 he, .int .i64 bo, .int .i64 ou, .int .i64 ti, .int .i64 ba], .int .i64 cl, .agg #[.string m, .string tg, .int .i64 mn, .slice A n c, .string bd], .agg #[.int .i64 ru, .string sc, .string inf, .slice An nn cn]] w fun e w' => (∃ A' c', e = .returned (.slice A' z c') ∧ Pairs w' A' L) ∧ Below w.heap.size w w' := by
  refine (ref11_Vars nm p Ar nr cr co id he bo ou ti ba cl m tg mn fl bd A n c ru sc inf An nn cn ns w hn hn9 hp hs hnn hnn9 hpn hsn htz hbz hp1 hp2 hc1 hc2 hm1 hm2).mono fun e w' h => ?_
  obtain ⟨⟨A', m', c', h1, h2, h3⟩, hb⟩ := h
  rw [hL] at h2 h3
  rw [← h2, hz] at h1
  exact ⟨⟨A', c', h1, h3⟩, hb⟩
theorem headR_len (nm : ByteArray) (p cl : Int) (r : Req) (sc inf : ByteArray) : (headR nm p cl r sc inf).length ≤ 13 := by
  unfold headR
  have a1 : (if r.bd.toList.isEmpty = true then ([] : List Pr) else [(⟨#[67, 79, 78, 84, 69, 78, 84, 95, 76, 69, 78, 71, 84, 72]⟩, itoaB (r.bd.size : Int))]).length ≤ 1 := by split <;> simp
  have a2 : (if inf.toList.isEmpty = true then ([] : List Pr) else [(⟨#[80, 65, 84, 72, 95, 73, 78, 70, 79]⟩, inf)]).length ≤ 1 := by split <;> simp
  simp only [List.length_append, List.length_cons, List.length_nil]
  cases getS r.fl ⟨#[99, 111, 110, 116, 101, 110, 116, 45, 116, 121, 112, 101]⟩ with
  | nil => simp only [List.length_nil]; omega
  | cons v l => simp only [List.length_cons, List.length_nil]; omega
set_option maxRecDepth 100000 in
set_option maxHeartbeats 8000000 in
theorem law15_tells (nm : ByteArray) (p : Int) (Ar : Option Addr) (nr cr : Nat) (co id he bo ou ti ba cli : Int) (m tg : ByteArray) (mn : Int) (fl : List Pr) (bd : ByteArray) (A : Option Addr) (n c : Nat) (ru : Int) (sc inf : ByteArray) (An : Option Addr) (nn cn : Nat) (ns : List Pr) (f : ByteArray) (w : World)
    (hT : Tab w) (hn : fl.length = n) (hp : Pairs w A fl) (hs : ∀ p ∈ fl, p.1.size ≤ 140737488351232 ∧ p.2.size ≤ 140737488351232) (hnn : ns.length = nn) (hpn : Pairs w An ns) (hsn : ∀ p ∈ ns, p.1.size ≤ 140737488351232 ∧ p.2.size ≤ 140737488351232)
    (hbz : bd.size ≤ 9223372036854775807) (hp1 : -9223372036854775808 ≤ p) (hp2 : p ≤ 9223372036854775807) (hm1 : -9223372036854775808 ≤ mn) (hm2 : mn ≤ 9223372036854775807) :
    Calls Tryd.prog 3 #[.agg #[.string nm, .int .i64 p, .slice Ar nr cr, .int .i64 co, .int .i64 id, .int .i64 he, .int .i64 bo, .int .i64 ou, .int .i64 ti, .int .i64 ba], .int .i64 cli, .agg #[.string m, .string tg, .int .i64 mn, .slice A n c, .string bd], .agg #[.int .i64 ru, .string sc, .string inf, .slice An nn cn], .string f] w fun e w' => e = .returned (.bool true) ∧ Below w.heap.size w w' := by
  obtain ⟨Wb, hWb⟩ : ∃ x, (((w.alloc (.cells #[.string nm, .int .i64 p, .slice Ar nr cr, .int .i64 co, .int .i64 id, .int .i64 he, .int .i64 bo, .int .i64 ou, .int .i64 ti, .int .i64 ba] 24)).alloc (.cells #[.string m, .string tg, .int .i64 mn, .slice A n c, .string bd] 27)).alloc (.cells #[.int .i64 ru, .string sc, .string inf, .slice An nn cn] 29)) = x := ⟨_, rfl⟩
  have hb0 : Below w.heap.size w Wb := hWb ▸ fr_alloc (fr_alloc (fr_alloc (fr_refl w) _) _) _
  have hXC : Box Wb w.heap.size [.string nm, .int .i64 p, .slice Ar nr cr, .int .i64 co, .int .i64 id, .int .i64 he, .int .i64 bo, .int .i64 ou, .int .i64 ti, .int .i64 ba] := hWb ▸ (((Box.new w [.string nm, .int .i64 p, .slice Ar nr cr, .int .i64 co, .int .i64 id, .int .i64 he, .int .i64 bo, .int .i64 ou, .int .i64 ti, .int .i64 ba] 24).fr (fr_alloc (fr_refl _) _)).fr (fr_alloc (fr_refl _) _))
  have hXR : Box Wb (w.heap.size + 1) [.string m, .string tg, .int .i64 mn, .slice A n c, .string bd] := by
    have := ((Box.new (w.alloc (.cells #[.string nm, .int .i64 p, .slice Ar nr cr, .int .i64 co, .int .i64 id, .int .i64 he, .int .i64 bo, .int .i64 ou, .int .i64 ti, .int .i64 ba] 24)) [.string m, .string tg, .int .i64 mn, .slice A n c, .string bd] 27).fr (fr_alloc (fr_refl _) (.cells #[.int .i64 ru, .string sc, .string inf, .slice An nn cn] 29)))
    rw [← hWb]; simpa using this
  have hXT : Box Wb (w.heap.size + 2) [.int .i64 ru, .string sc, .string inf, .slice An nn cn] := by
    have := Box.new ((w.alloc (.cells #[.string nm, .int .i64 p, .slice Ar nr cr, .int .i64 co, .int .i64 id, .int .i64 he, .int .i64 bo, .int .i64 ou, .int .i64 ti, .int .i64 ba] 24)).alloc (.cells #[.string m, .string tg, .int .i64 mn, .slice A n c, .string bd] 27)) [.int .i64 ru, .string sc, .string inf, .slice An nn cn] 29
    rw [← hWb]; simpa using this
  have hBX : ∀ W', Below Wb.heap.size Wb W' → (W'.cell? ⟨w.heap.size, 0, none⟩ = some (.string nm) ∧ W'.cell? ⟨w.heap.size, 1, none⟩ = some (.int .i64 p) ∧ W'.cell? ⟨w.heap.size, 2, none⟩ = some (.slice Ar nr cr) ∧ W'.cell? ⟨w.heap.size, 3, none⟩ = some (.int .i64 co) ∧ W'.cell? ⟨w.heap.size, 4, none⟩ = some (.int .i64 id) ∧ W'.cell? ⟨w.heap.size, 5, none⟩ = some (.int .i64 he) ∧ W'.cell? ⟨w.heap.size, 6, none⟩ = some (.int .i64 bo) ∧ W'.cell? ⟨w.heap.size, 7, none⟩ = some (.int .i64 ou) ∧ W'.cell? ⟨w.heap.size, 8, none⟩ = some (.int .i64 ti) ∧ W'.cell? ⟨w.heap.size, 9, none⟩ = some (.int .i64 ba) ∧ W'.cell? ⟨w.heap.size + 1, 0, none⟩ = some (.string m) ∧ W'.cell? ⟨w.heap.size + 1, 1, none⟩ = some (.string tg) ∧ W'.cell? ⟨w.heap.size + 1, 2, none⟩ = some (.int .i64 mn) ∧ W'.cell? ⟨w.heap.size + 1, 3, none⟩ = some (.slice A n c) ∧ W'.cell? ⟨w.heap.size + 1, 4, none⟩ = some (.string bd) ∧ W'.cell? ⟨w.heap.size + 2, 0, none⟩ = some (.int .i64 ru) ∧ W'.cell? ⟨w.heap.size + 2, 1, none⟩ = some (.string sc) ∧ W'.cell? ⟨w.heap.size + 2, 2, none⟩ = some (.string inf) ∧ W'.cell? ⟨w.heap.size + 2, 3, none⟩ = some (.slice An nn cn)) := fun W' h => ⟨(hXC.fr h).2 0 _ rfl, (hXC.fr h).2 1 _ rfl, (hXC.fr h).2 2 _ rfl, (hXC.fr h).2 3 _ rfl, (hXC.fr h).2 4 _ rfl, (hXC.fr h).2 5 _ rfl, (hXC.fr h).2 6 _ rfl, (hXC.fr h).2 7 _ rfl, (hXC.fr h).2 8 _ rfl, (hXC.fr h).2 9 _ rfl, (hXR.fr h).2 0 _ rfl, (hXR.fr h).2 1 _ rfl, (hXR.fr h).2 2 _ rfl, (hXR.fr h).2 3 _ rfl, (hXR.fr h).2 4 _ rfl, (hXT.fr h).2 0 _ rfl, (hXT.fr h).2 1 _ rfl, (hXT.fr h).2 2 _ rfl, (hXT.fr h).2 3 _ rfl⟩
  have HBX := Lib.hid hBX; have HEW := Lib.hid hWb; have HB0 := Lib.hid hb0; have HXR := Lib.hid hXR; have HXT := Lib.hid hXT
  have HT := Lib.hid (hT.fr hb0); have HN := Lib.hid hn; have HP := Lib.hid (hp.fr hb0); have HS := Lib.hid hs; have HNN := Lib.hid hnn; have HPN := Lib.hid (hpn.fr hb0); have HSN := Lib.hid hsn; have HPB := Lib.hid (And.intro hp1 hp2); have HMB := Lib.hid (And.intro hm1 hm2); have HBZ := Lib.hid hbz
  clear hT hXC hXR hXT hBX hWb hb0 hn hp hs hnn hpn hsn hbz hp1 hp2 hm1 hm2
  go_enter Tryd.func3, Tryd.ntmps3
  go_wp2_with fail
  rw [HEW.out]
  clear HEW
  refine (law15_known _ HT.out).mono ?_
  rintro e w1 ⟨rfl, hb1⟩
  have r1 : w1.cell? ⟨w.heap.size + 1, 1, none⟩ = some (.string tg) := (HXR.out.fr hb1).2 1 _ rfl
  have r3 : w1.cell? ⟨w.heap.size + 1, 3, none⟩ = some (.slice A n c) := (HXR.out.fr hb1).2 3 _ rfl
  have t3 : w1.cell? ⟨w.heap.size + 2, 3, none⟩ = some (.slice An nn cn) := (HXT.out.fr hb1).2 3 _ rfl
  have HB1 := Lib.hid hb1; have HBW := Lib.hid (fr_trans HB0.out hb1)
  clear hb1
  by_cases h20 : n ≤ 20
  · have h20I : ¬ (20 : Int) < (n : Int) := by omega
    by_cases h10 : nn ≤ 10
    · have h10I : ¬ (10 : Int) < (nn : Int) := by omega
      by_cases h200 : f.size ≤ 200
      · have h200I : ¬ (200 : Int) < (f.size : Int) := by omega
        by_cases h500 : tg.size ≤ 500
        · have h500I : ¬ (500 : Int) < (tg.size : Int) := by omega
          have HH := Lib.hid (And.intro h20 (And.intro h10 (And.intro h200 h500)))
          clear h20 h10 h200 h500
          go_wp2_with fail
          obtain ⟨cl, hcl⟩ : ∃ x, max 0 (min cli 100) = x := ⟨_, rfl⟩
          rw [hcl]
          have hc0 : 0 ≤ cl := by omega
          have hc1 : cl ≤ 1000000 := by omega
          obtain ⟨L, hL⟩ : ∃ x, varsR nm p cl ⟨m, tg, mn, fl, bd⟩ sc inf ns = x := ⟨_, rfl⟩
          obtain ⟨z, hz⟩ : ∃ x, L.length = x := ⟨_, rfl⟩
          have HZ := Lib.hid hz
          have hz9 : z ≤ 100 := by
            have h1 := headR_len nm p cl ⟨m, tg, mn, fl, bd⟩ sc inf
            have h2 := putsL_len (headR nm p cl ⟨m, tg, mn, fl, bd⟩ sc inf) []
            have h3 := putsL_len (routX ns) (putsL [] (headR nm p cl ⟨m, tg, mn, fl, bd⟩ sc inf))
            have h4 := refF_len fl fl (putsL (putsL [] (headR nm p cl ⟨m, tg, mn, fl, bd⟩ sc inf)) (routX ns))
            have h5 : (routX ns).length = nn := by unfold routX; rw [List.length_map, HNN.out]
            have h6 : L.length = (refF fl fl (putsL (putsL [] (headR nm p cl ⟨m, tg, mn, fl, bd⟩ sc inf)) (routX ns))).length := by rw [← hL]; rfl
            have h7 := HN.out
            have h8 := HH.out
            simp only [List.length_nil] at h2
            omega
          have HB := Lib.hid (fun W hb => build_tells nm p Ar nr cr co id he bo ou ti ba cl m tg mn fl bd A n c ru sc inf An nn cn ns L z W (HT.out.fr hb) hL hz HN.out HH.out.1 (HP.out.fr hb) HS.out HNN.out HH.out.2.1 (HPN.out.fr hb) HSN.out HH.out.2.2.2 HBZ.out HPB.out.1 HPB.out.2 hc0 hc1 HMB.out.1 HMB.out.2)
          have HV := Lib.hid (fun W hb => vars_tells nm p Ar nr cr co id he bo ou ti ba cl m tg mn fl bd A n c ru sc inf An nn cn ns L z W hL hz HN.out HH.out.1 (HP.out.fr hb) HS.out HNN.out HH.out.2.1 (HPN.out.fr hb) HSN.out HH.out.2.2.2 HBZ.out HPB.out.1 HPB.out.2 hc0 hc1 HMB.out.1 HMB.out.2)
          have hnz := greatB_size f
          have HNV := Lib.hid (fun W => vars_Name f W (by have := HH.out; omega))
          have HNR := Lib.hid (fun W => ref_Name f W (by have := HH.out; omega))
          obtain ⟨nf, hnf⟩ : ∃ x, (⟨#[72, 84, 84, 80, 95]⟩ ++ greatB f) = x := ⟨_, rfl⟩
          rw [hnf] at HNV HNR
          have HZ9 := Lib.hid hz9
          have hKa : ∀ W', Below w1.heap.size w1 W' → (W'.cell? ⟨w.heap.size, 0, none⟩ = some (.string nm) ∧ W'.cell? ⟨w.heap.size, 1, none⟩ = some (.int .i64 p) ∧ W'.cell? ⟨w.heap.size, 2, none⟩ = some (.slice Ar nr cr) ∧ W'.cell? ⟨w.heap.size, 3, none⟩ = some (.int .i64 co) ∧ W'.cell? ⟨w.heap.size, 4, none⟩ = some (.int .i64 id) ∧ W'.cell? ⟨w.heap.size, 5, none⟩ = some (.int .i64 he) ∧ W'.cell? ⟨w.heap.size, 6, none⟩ = some (.int .i64 bo) ∧ W'.cell? ⟨w.heap.size, 7, none⟩ = some (.int .i64 ou) ∧ W'.cell? ⟨w.heap.size, 8, none⟩ = some (.int .i64 ti) ∧ W'.cell? ⟨w.heap.size, 9, none⟩ = some (.int .i64 ba) ∧ W'.cell? ⟨w.heap.size + 1, 0, none⟩ = some (.string m) ∧ W'.cell? ⟨w.heap.size + 1, 1, none⟩ = some (.string tg) ∧ W'.cell? ⟨w.heap.size + 1, 2, none⟩ = some (.int .i64 mn) ∧ W'.cell? ⟨w.heap.size + 1, 3, none⟩ = some (.slice A n c) ∧ W'.cell? ⟨w.heap.size + 1, 4, none⟩ = some (.string bd) ∧ W'.cell? ⟨w.heap.size + 2, 0, none⟩ = some (.int .i64 ru) ∧ W'.cell? ⟨w.heap.size + 2, 1, none⟩ = some (.string sc) ∧ W'.cell? ⟨w.heap.size + 2, 2, none⟩ = some (.string inf) ∧ W'.cell? ⟨w.heap.size + 2, 3, none⟩ = some (.slice An nn cn)) := fun W' h => HBX.out W' (fr_trans HB1.out h)
          have HKa := Lib.hid hKa
          clear hKa hz9 hL hz hnz hnf hc0 hc1 hcl r1 r3 t3
          go_region_held3 (fun W' => (W'.cell? ⟨w.heap.size, 0, none⟩ = some (.string nm) ∧ W'.cell? ⟨w.heap.size, 1, none⟩ = some (.int .i64 p) ∧ W'.cell? ⟨w.heap.size, 2, none⟩ = some (.slice Ar nr cr) ∧ W'.cell? ⟨w.heap.size, 3, none⟩ = some (.int .i64 co) ∧ W'.cell? ⟨w.heap.size, 4, none⟩ = some (.int .i64 id) ∧ W'.cell? ⟨w.heap.size, 5, none⟩ = some (.int .i64 he) ∧ W'.cell? ⟨w.heap.size, 6, none⟩ = some (.int .i64 bo) ∧ W'.cell? ⟨w.heap.size, 7, none⟩ = some (.int .i64 ou) ∧ W'.cell? ⟨w.heap.size, 8, none⟩ = some (.int .i64 ti) ∧ W'.cell? ⟨w.heap.size, 9, none⟩ = some (.int .i64 ba) ∧ W'.cell? ⟨w.heap.size + 1, 0, none⟩ = some (.string m) ∧ W'.cell? ⟨w.heap.size + 1, 1, none⟩ = some (.string tg) ∧ W'.cell? ⟨w.heap.size + 1, 2, none⟩ = some (.int .i64 mn) ∧ W'.cell? ⟨w.heap.size + 1, 3, none⟩ = some (.slice A n c) ∧ W'.cell? ⟨w.heap.size + 1, 4, none⟩ = some (.string bd) ∧ W'.cell? ⟨w.heap.size + 2, 0, none⟩ = some (.int .i64 ru) ∧ W'.cell? ⟨w.heap.size + 2, 1, none⟩ = some (.string sc) ∧ W'.cell? ⟨w.heap.size + 2, 2, none⟩ = some (.string inf) ∧ W'.cell? ⟨w.heap.size + 2, 3, none⟩ = some (.slice An nn cn)))
            (first | (refine HKa.out _ ?_; first | exact (fr_refl _) | exact (fr_drew (fr_refl _)) | exact (fr_trans (fr_drew (fr_refl _)) hbB) | exact (fr_trans (fr_trans (fr_drew (fr_refl _)) hbB) hbV) | exact (fr_trans (fr_trans (fr_trans (fr_drew (fr_refl _)) hbB) hbV) hbS) | exact (fr_trans (fr_trans (fr_trans (fr_trans (fr_drew (fr_refl _)) hbB) hbV) hbS) hbN) | exact (fr_trans (fr_trans (fr_trans (fr_trans (fr_trans (fr_drew (fr_refl _)) hbB) hbV) hbS) hbN) hbR)))
            (first
            | (go_at_call 7; refine (HB.out _ (fr_trans HB1.out (fr_drew (fr_refl _)))).mono ?_; rintro e wB ⟨⟨A1, c1, rfl, hP1⟩, hbB⟩)
            | (go_at_call 8; refine (HV.out _ (fr_trans HB1.out (fr_trans (fr_drew (fr_refl _)) hbB))).mono ?_; rintro e wV ⟨⟨A2, c2, rfl, hP2⟩, hbV⟩)
            | (go_at_call 6; refine (ref1_SamePairs A1 A2 z c1 c2 L _ HZ.out (hP1.fr hbV) hP2 (by have := HZ9.out; omega)).mono ?_; rintro e wS ⟨rfl, hbS⟩)
            | (go_at_call 9; refine (HNV.out _).mono ?_; rintro e wN ⟨rfl, hbN⟩)
            | (go_at_call 10; refine (HNR.out _).mono ?_; rintro e wR ⟨rfl, hbR⟩))
          all_goals
            have HF := Lib.hid (fr_trans HBW.out (fr_trans (fr_trans (fr_trans (fr_trans (fr_trans (fr_drew (fr_refl _)) hbB) hbV) hbS) hbN) hbR))
            go_wp2
            go_ret
            exact ⟨rfl, HF.out⟩
        · have h500I : (500 : Int) < (tg.size : Int) := by omega
          go_wp2
          go_ret
          exact ⟨rfl, HBW.out⟩
      · have h200I : (200 : Int) < (f.size : Int) := by omega
        go_wp2
        go_ret
        exact ⟨rfl, HBW.out⟩
    · have h10I : (10 : Int) < (nn : Int) := by omega
      go_wp2
      go_ret
      exact ⟨rfl, HBW.out⟩
  · have h20I : (20 : Int) < (n : Int) := by omega
    go_wp2
    go_ret
    exact ⟨rfl, HBW.out⟩
end Go.Proofs.YtdlignhlliellaaDoor
