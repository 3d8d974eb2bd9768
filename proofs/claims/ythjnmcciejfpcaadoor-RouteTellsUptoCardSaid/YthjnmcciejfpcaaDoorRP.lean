/- conduitlaw13.right, RouteParts: true. -/
import Derived.Test.YthjnmcciejfpcaaDoorOpenR
import Derived.Test.YthjnmcciejfpcaaDoorRKnown
import Derived.Test.YthjnmcciejfpcaaDoorMI
import Derived.Test.YthjnmcciejfpcaaDoorRI2
namespace Go.Proofs.YthjnmcciejfpcaaDoor
set_option linter.unusedVariables false
set_option linter.unusedSimpArgs false
open Go.RowKit

def okU (n : Int) (u : RU) : Bool := isOkW u.v.kind u.v.host u.v.path u.v.backend n u.ws
def rightS (l : List RU) : Bool := l.all (okU 2) && Nat.ble l.length 8
theorem uall_no {p : RU → Bool} {l : List RU} {k : Nat} (h : k < l.length) (hp : p l[k] = false) : l.all p = false := by
  rw [← List.take_append_drop k l, List.all_append, List.drop_eq_getElem_cons h, List.all_cons, hp]; simp
theorem uall_succ {p : RU → Bool} {l : List RU} {k : Nat} (h : k < l.length) (hk : (l.take k).all p = true) (hp : p l[k] = true) : (l.take (k + 1)).all p = true := by
  rw [List.take_succ_eq_append_getElem h, List.all_append, hk]; simp [hp]
theorem ref11_IsRule_at (u : RU) (n : Int) (v : Bool) (w : World) (h : okU n u = v) (hu : u.Has w) (hf : u.Fit 1048576) :
    Calls Tryd.prog 15 #[.agg #[.int .i64 u.v.kind, .string u.v.host, .string u.v.path, .int .i64 u.v.backend, .slice u.v.wA u.v.wn u.v.wc], .int .i64 n] w fun e w' => e = .returned (.bool v) ∧ Below w.heap.size w w' := by
  subst h
  obtain ⟨h1, h2, h3, h4⟩ := hf
  exact ref11_IsRule u.v.kind u.v.host u.v.path u.v.backend n u.v.wA u.v.wn u.v.wc u.ws w hu.1 hu.2 (by omega) (by omega) (fun r hr => by have := h4 r hr; omega) (by have := hu.1; omega)
set_option maxRecDepth 100000 in
set_option maxHeartbeats 2000000 in
theorem law13_right (A : Option Addr) (n c : Nat) (l : List RU) (w : World) (hn : l.length = n) (hR : Rules w A (l.map (·.v))) (hH : ∀ u ∈ l, u.Has w) (hF : ∀ u ∈ l, u.Fit 1048576) (hl : n ≤ 1048576) :
    Calls Tryd.prog 7 #[.slice A n c] w fun e w' => e = .returned (.bool (rightS l)) ∧ Below w.heap.size w w' := by
  have hU : rightS l = (l.all (okU 2) && Nat.ble l.length 8) := rfl
  rw [hn] at hU
  have HU := Lib.hid hU; have HR := Lib.hid hR; have HH := Lib.hid hH; have HF := Lib.hid hF; have HN := Lib.hid hn
  clear hU hR hH hF hn
  go_enter Tryd.func7, Tryd.ntmps7
  go_wp2
  go_loopw [3] (fun i wr => ∃ k : Nat, k ≤ n ∧ i = .int .i64 k ∧ Below w.heap.size w wr ∧ (l.take k).all (okU 2) = true) (fun i _ => n - (intOf i).toNat)
  case atStart => exact ⟨0, Nat.zero_le _, rfl, fr_refl _, rfl⟩
  case round =>
    obtain ⟨k, hk, rfl, hb, hall⟩ := hrel
    have HB := Lib.hid hb; have HA := Lib.hid hall
    clear hb hall
    by_cases hlt : k < n
    · have kx : k < l.length := by have := HN.out; omega
      obtain ⟨g, off, rfl, hgl, hc⟩ := (HR.out.fr HB.out) (by rw [List.length_map]; omega)
      have hcr := hc k (by rw [List.length_map]; exact kx)
      rw [List.getElem_map] at hcr
      obtain ⟨u, hu⟩ : ∃ u, l[k] = u := ⟨_, rfl⟩
      rw [hu] at hcr
      have hmem : u ∈ l := by rw [← hu]; exact List.getElem_mem kx
      have HHU := Lib.hid ((HH.out u hmem).fr HB.out)
      have HFU := Lib.hid (HF.out u hmem)
      have HU2 := Lib.hid hu
      have c0 := hcr 0 _ rfl
      have c1 := hcr 1 _ rfl
      have c2 := hcr 2 _ rfl
      have c3 := hcr 3 _ rfl
      have c4 := hcr 4 _ rfl
      rw [Nat.add_zero] at c0
      clear hcr hc hu hmem
      cases hok : okU 2 u
      · have HO := Lib.hid hok; clear hok
        go_wp2_with fail
        refine (ref11_IsRule_at u 2 _ _ HO.out HHU.out HFU.out).mono ?_
        rintro e w1 ⟨rfl, hb1⟩
        have HB1 := Lib.hid (fr_trans HB.out hb1)
        clear hb1 c0 c1 c2 c3 c4
        go_wp2
        go_ret
        exact ⟨by rw [HU.out, uall_no kx (by rw [HU2.out]; exact HO.out)]; rfl, HB1.out⟩
      · have HO := Lib.hid hok; clear hok
        go_wp2_with fail
        refine (ref11_IsRule_at u 2 _ _ HO.out HHU.out HFU.out).mono ?_
        rintro e w1 ⟨rfl, hb1⟩
        have HB1 := Lib.hid (fr_trans HB.out hb1)
        clear hb1 c0 c1 c2 c3 c4
        go_wp2
        go_roundw
        case measure => exact meas hlt .i64 .i64
        case rel => exact ⟨k + 1, by omega, by go_num, HB1.out, uall_succ kx HA.out (by rw [HU2.out]; exact HO.out)⟩
    · have e : l.take k = l := List.take_of_length_le (by have := HN.out; omega)
      obtain rfl : k = n := by omega
      have HA2 := Lib.hid (show l.all (okU 2) = true by have := HA.out; rwa [e] at this)
      clear e
      by_cases h8 : k ≤ 8
      · have hI : decide ((k : Int) ≤ 8) = true := by simp; omega
        have HK := Lib.hid (ble_yes h8); clear h8
        go_wp2
        go_ret
        exact ⟨by rw [HU.out, HA2.out, HK.out]; simp [hI], HB.out⟩
      · have hI : decide ((k : Int) ≤ 8) = false := by simp; omega
        have HK := Lib.hid (ble_no h8); clear h8
        go_wp2
        go_ret
        exact ⟨by rw [HU.out, HA2.out, HK.out]; simp [hI], HB.out⟩
theorem law13_right_at (A : Option Addr) (n c : Nat) (l : List RU) (v : Bool) (w : World) (hv : rightS l = v) (hn : l.length = n) (hR : Rules w A (l.map (·.v))) (hH : ∀ u ∈ l, u.Has w) (hF : ∀ u ∈ l, u.Fit 1048576) (hl : n ≤ 1048576) :
    Calls Tryd.prog 7 #[.slice A n c] w fun e w' => e = .returned (.bool v) ∧ Below w.heap.size w w' := hv ▸ law13_right A n c l w hn hR hH hF hl
/-! ### what rules that may be say -/
theorem cleanOk_shape {s : ByteArray} (h : cleanOk s = true) : ∃ st t, ShapeG s st t := by
  unfold cleanOk at h
  cases hc : cleanS (escB s) with
  | none => rw [hc] at h; cases h
  | some p =>
    rw [hc] at h
    have e : p = s := eqB_iff.1 h
    subst e
    exact cleanG hc
theorem okU_path {n : Int} {u : RU} (h : okU n u = true) : pathOk u.v.kind u.v.path = true := by
  unfold okU isOkW at h
  simp only [Bool.and_eq_true] at h
  exact h.1.2
theorem path_kind {k : Int} {s : ByteArray} (h : pathOk k s = true) : 0 < k ∧ (k = 3 → ∃ st t, ShapeG s st t) := by
  unfold pathOk at h
  split at h
  · exact ⟨by omega, fun h3 => by omega⟩
  · split at h
    · exact ⟨by omega, fun h3 => by omega⟩
    · split at h
      · exact ⟨by omega, fun h3 => cleanOk_shape h⟩
      · cases h
structure Good (l : List RU) (p : ByteArray) : Prop where
  pos : ∀ r ∈ l.map (·.v), 0 < r.kind
  shape : ∀ r ∈ l.map (·.v), r.kind = 3 → ∃ st t, ShapeG r.path st t
  fits : ∀ r ∈ l.map (·.v), FitsR r.path p r.kind
  clean : ∃ st t, ShapeG p st t
theorem good_of {l : List RU} {path p : ByteArray} (hr : rightS l = true) (hF : ∀ u ∈ l, u.Fit 1048576) (hp : cleanS path = some p) (h300 : path.size ≤ 300) : Good l p := by
  obtain ⟨sp, tp, hsp⟩ := cleanG hp
  obtain ⟨s0, t0, h0⟩ := clean_shape hp (by omega)
  have hz := shape_size h0
  unfold rightS at hr
  rw [Bool.and_eq_true] at hr
  have hu : ∀ r ∈ l.map (·.v), 0 < r.kind ∧ (r.kind = 3 → ∃ st t, ShapeG r.path st t) ∧ r.path.size ≤ 1048576 := fun r hrm => by
    obtain ⟨u, hum, rfl⟩ := List.mem_map.1 hrm
    have h1 := path_kind (okU_path (List.all_eq_true.1 hr.1 u hum))
    exact ⟨h1.1, h1.2, (hF u hum).2.1⟩
  refine ⟨fun r hrm => (hu r hrm).1, fun r hrm => (hu r hrm).2.1, fun r hrm => ?_, ⟨sp, tp, hsp⟩⟩
  obtain ⟨h1, h2, h3⟩ := hu r hrm
  refine ⟨by omega, by omega, fun hk hb => ?_⟩
  obtain ⟨sq, tq, hsq⟩ := h2 hk
  exact fitsG hsp hsq hb
theorem cleanR1_none {s : ByteArray} (h : cleanS s = none) : cleanR1 (cleanS s) = .tuple #[.string ⟨#[]⟩, .int .i64 10] := by rw [h]; rfl
theorem cleanR1_some {s p : ByteArray} (h : cleanS s = some p) : cleanR1 (cleanS s) = .tuple #[.string p, .int .i64 0] := by rw [h]; rfl
theorem size_nil {a : ByteArray} (h : a.size = 0) : a = ⟨#[]⟩ := L_inj (by
  have : (L a).length = 0 := h
  rw [List.length_eq_zero_iff.1 this])
/-- of a choice that is one -/
theorem chosen {l : List RU} {p host : ByteArray} (hg : Good l p) {b : Bst} (hb : chooseS (l.map (·.v)) host p = b) : (b.ok = false ∧ b.rule = 0 ∧ b.sc = ⟨#[]⟩ ∧ b.inf = ⟨#[]⟩ ∧ b.nm = []) ∨
    (b.ok = true ∧ ∃ i, ∃ h : i < l.length, b.rule = (i : Int) ∧ Says l[i].v.kind p b.sc b.inf b.nm) := by
  subst hb
  rcases choose_good (host := host) (p := p) hg.pos with ⟨h1, h2, h3, h4, h5⟩ | ⟨i, h, -, h2, h3, h4, h5⟩
  · exact .inl ⟨by unfold Bst.ok; rw [h1]; rfl, h2, h3, h4, h5⟩
  · rw [List.length_map] at h
    rw [List.getElem_map] at h5
    obtain ⟨sp, tp, hsp⟩ := hg.clean
    exact .inr ⟨by unfold Bst.ok; exact decide_eq_true h4, i, h, h2, says_of (hg.shape _ (List.mem_map.2 ⟨_, List.getElem_mem h, rfl⟩)) hsp h5⟩
set_option maxRecDepth 100000 in
set_option maxHeartbeats 8000000 in
theorem law13_parts (A : Option Addr) (n c : Nat) (l : List RU) (path : ByteArray) (w : World) (hm : MaxL w) (hn : l.length = n) (hR : Rules w A (l.map (·.v))) (hH : ∀ u ∈ l, u.Has w) (hF : ∀ u ∈ l, u.Fit 1048576) (hl : n ≤ 1048576) (hp : path.size ≤ 1048576) :
    Calls Tryd.prog 4 #[.slice A n c, .string path] w fun e w' => e = .returned (.bool true) ∧ Below w.heap.size w w' := by
  have HM := Lib.hid hm; have HR := Lib.hid hR; have HH := Lib.hid hH; have HF := Lib.hid hF; have HN := Lib.hid hn; have HL := Lib.hid hl
  have HP9 := Lib.hid (show path.size ≤ 1000000000 by omega)
  clear hm hR hH hF hn hl hp
  go_enter Tryd.func4, Tryd.ntmps4
  go_wp2_with fail
  refine (law13_known _ HM.out).mono ?_
  rintro e w1 ⟨rfl, hb1⟩
  have HB1 := Lib.hid hb1; clear hb1
  by_cases h300 : 300 < path.size
  · have hI : (300 : Int) < (path.size : Int) := by omega
    clear h300
    cases hc : cleanS path with
    | none =>
      have HC := Lib.hid (cleanR1_none hc); clear hc
      go_wp2_with fail
      refine (ref11_Clean path _ HP9.out).mono ?_
      rintro e w2 ⟨rfl, hb2⟩
      rw [HC.out]
      have HB2 := Lib.hid (fr_trans HB1.out hb2); clear hb2
      go_wp2
      go_ret
      exact ⟨rfl, HB2.out⟩
    | some p =>
      have HC := Lib.hid (cleanR1_some hc); clear hc
      go_wp2_with fail
      refine (ref11_Clean path _ HP9.out).mono ?_
      rintro e w2 ⟨rfl, hb2⟩
      rw [HC.out]
      have HB2 := Lib.hid (fr_trans HB1.out hb2); clear hb2
      go_wp2
      go_ret
      exact ⟨rfl, HB2.out⟩
  have hI : ¬ (300 : Int) < (path.size : Int) := by omega
  have H300 := Lib.hid (show path.size ≤ 300 by omega)
  clear h300
  cases hc : cleanS path with
  | none =>
    have HC := Lib.hid (cleanR1_none hc); clear hc
    go_wp2_with fail
    refine (ref11_Clean path _ HP9.out).mono ?_
    rintro e w2 ⟨rfl, hb2⟩
    rw [HC.out]
    have HB2 := Lib.hid (fr_trans HB1.out hb2); clear hb2
    go_wp2
    go_ret
    exact ⟨rfl, HB2.out⟩
  | some p =>
    have HCS := Lib.hid hc
    have HC := Lib.hid (cleanR1_some hc); clear hc
    go_wp2_with fail
    refine (ref11_Clean path _ HP9.out).mono ?_
    rintro e w2 ⟨rfl, hb2⟩
    rw [HC.out]
    have HB2 := Lib.hid (fr_trans HB1.out hb2); clear hb2
    cases hr : rightS l
    · have HRR := Lib.hid hr; clear hr
      go_wp2_with fail
      refine (law13_right_at A n c l _ _ HRR.out HN.out (HR.out.fr HB2.out) (fun u hu => (HH.out u hu).fr HB2.out) HF.out HL.out).mono ?_
      rintro e w3 ⟨rfl, hb3⟩
      have HB3 := Lib.hid (fr_trans HB2.out hb3); clear hb3
      go_wp2
      go_ret
      exact ⟨rfl, HB3.out⟩
    · have HG := Lib.hid (good_of hr HF.out HCS.out H300.out)
      have HRR := Lib.hid hr; clear hr
      go_wp2_with fail
      refine (law13_right_at A n c l _ _ HRR.out HN.out (HR.out.fr HB2.out) (fun u hu => (HH.out u hu).fr HB2.out) HF.out HL.out).mono ?_
      rintro e w3 ⟨rfl, hb3⟩
      have HB3 := Lib.hid (fr_trans HB2.out hb3); clear hb3
      obtain ⟨b, hb⟩ : ∃ b, chooseS (l.map (·.v)) ⟨#[]⟩ p = b := ⟨_, rfl⟩
      have hch := chosen HG.out hb
      obtain ⟨ru, sc, inf, nm, kd, ms⟩ := b
      obtain ⟨ok, hok⟩ : ∃ ok, decide (0 < kd) = ok := ⟨_, rfl⟩
      have hok' : Bst.ok ⟨ru, sc, inf, nm, kd, ms⟩ = ok := hok
      rw [hok'] at hch
      simp only at hch
      obtain ⟨m, hnm⟩ : ∃ m, nm.length = m := ⟨_, rfl⟩
      have HB := Lib.hid hb; have HOK := Lib.hid hok; have HNM := Lib.hid hnm; have HCH := Lib.hid hch
      clear hb hch hok hok' hnm
      go_wp2_with fail
      refine (choose_at m ok A c n (l.map (·.v)) ⟨#[]⟩ p _ HB.out HNM.out HOK.out (by rw [List.length_map]; exact HN.out) (HM.out.fr HB3.out) (HR.out.fr HB3.out) HG.out.fits (by rw [List.length_map]; have := HN.out; have := HL.out; omega) (by decide)).mono ?_
      rintro e w4 ⟨⟨A4, c4, rfl, -⟩, hb4⟩
      have HB4 := Lib.hid (fr_trans HB3.out hb4); clear hb4
      have HB5 := Lib.hid (fr_alloc HB4.out (.cells #[.int .i64 ru, .string sc, .string inf, .slice A4 m c4] 29))
      rcases HCH.out with ⟨rfl, rfl, rfl, rfl, rfl⟩ | ⟨rfl, i, hi, rfl, hs⟩
      · go_wp2
        go_ret
        exact ⟨rfl, HB5.out⟩
      · obtain ⟨k, hk⟩ : ∃ k, l[i].v.kind = k := ⟨_, rfl⟩
        rw [hk] at hs
        obtain ⟨g, off, rfl, hgl, hcl⟩ := (HR.out.fr HB5.out) (by rw [List.length_map]; omega)
        have q0 := hcl i (by rw [List.length_map]; exact hi) 0 (.int .i64 k) (by rw [List.getElem_map, ← hk]; rfl)
        rw [Nat.add_zero] at q0
        have hin : (i : Int) < (n : Int) := by have := HN.out; omega
        have hi0 : (0 : Int) ≤ (i : Int) := by omega
        obtain ⟨hwh, hfi, hna, hbe⟩ := hs
        have hpp : ((sc ++ inf).toList == p.toList) = true := by rw [hwh]; simp
        have hpz : p.size ≤ 161000 := by obtain ⟨s0, t0, h0⟩ := clean_shape HCS.out (by have := H300.out; omega); exact shape_size h0
        have hsz : sc.size + inf.size = p.size := by rw [← hwh, ByteArray.size_append]
        have sb : ¬ 9223372036854775807 < sc.size + inf.size := by omega
        have HNM2 := HNM.out
        clear hcl hk hwh
        have hin3 : inf = ⟨#[]⟩ ∨ (inf.toList.isEmpty = false ∧ ∃ h : 0 < inf.size, ((inf[0].toNat : Int) == 47) = true) := by
          rcases hfi with h | ⟨h, h2⟩
          · exact .inl (size_nil h)
          · refine .inr ⟨?_, h, by rw [h2]; rfl⟩
            rw [toList_L]
            cases hL : L inf with
            | nil => have : (L inf).length = 0 := by rw [hL]; rfl
                     have : inf.size = 0 := this
                     omega
            | cons a r => rfl
        rcases hin3 with rfl | ⟨hie, hi47, h47⟩
        · by_cases hnn : nm = []
          · subst hnn
            obtain rfl : 0 = m := HNM2
            clear hfi hna hbe
            go_wp2
            go_ret
            exact ⟨rfl, HB5.out⟩
          · obtain rfl : k = 2 := hna.resolve_left hnn
            have hm0 : ¬ ((m : Int) = 0) := by
              have : 0 < nm.length := List.length_pos_iff.2 hnn
              omega
            clear hfi hna hbe HNM2
            go_wp2
            go_ret
            exact ⟨rfl, HB5.out⟩
        · have h34 : k = 3 ∨ k = 4 := hbe.resolve_left (by omega)
          have hnn : nm = [] := hna.resolve_right (by omega)
          subst hnn
          obtain rfl : 0 = m := HNM2
          clear hfi hna hbe
          rcases h34 with rfl | rfl
          · go_wp2
            go_ret
            exact ⟨rfl, HB5.out⟩
          · go_wp2
            go_ret
            exact ⟨rfl, HB5.out⟩
end Go.Proofs.YthjnmcciejfpcaaDoor
