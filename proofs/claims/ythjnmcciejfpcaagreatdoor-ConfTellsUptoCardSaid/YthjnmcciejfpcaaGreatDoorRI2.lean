/- conduitref11.path, IsRule: what rule.isPath, rule.Is answer. -/
import Derived.Test.YthjnmcciejfpcaaGreatDoorRI1
namespace Go.Proofs.YthjnmcciejfpcaaGreatDoor
set_option linter.unusedVariables false
set_option linter.unusedSimpArgs false
open Go.RowKit

set_option maxRecDepth 100000 in
set_option maxHeartbeats 4000000 in
theorem ref11_path2 (h p : ByteArray) (b : Int) (A : Option Addr) (m c : Nat) (w : World) (hp : p.size ≤ 2000000) :
    Calls Tryz.prog 29 #[.agg #[.int .i64 2, .string h, .string p, .int .i64 b, .slice A m c]] w fun e w' => e = .returned (.bool (segsOk p && cleanOk p)) ∧ Below w.heap.size w w' := by
  have hw0 := fr_alloc (fr_refl w) (.cells #[.int .i64 2, .string h, .string p, .int .i64 b, .slice A m c] 38)
  have HB0 := Lib.hid (Box.new w [.int .i64 2, .string h, .string p, .int .i64 b, .slice A m c] 38)
  have HW0 := Lib.hid hw0
  have hM : segsOk p = ((segs p).all segOk && Nat.ble (segs p).length 8) := rfl
  have hmm : ∀ x ∈ segs p, x.size ≤ 1000000000 := fun x hx => by have := segs_size hx; omega
  have hfl : ∀ x ∈ segs p, 0 < x.size := fun x hx => segs_full hx
  have hlen := segs_len p
  have hpS := fun (n : Nat) (W : World) (hn : (segs p).length = n) => segs_ref p n W hn (by omega)
  obtain ⟨l, hl⟩ : ∃ l, segs p = l := ⟨_, rfl⟩
  rw [hl] at hM hmm hlen hpS hfl
  obtain ⟨n, hn⟩ : ∃ n, l.length = n := ⟨_, rfl⟩
  have HLC := Lib.hid (fun W => hpS n W hn)
  rw [hn] at hM
  have HM := Lib.hid hM; have HMM := Lib.hid hmm; have HN := Lib.hid hn; have HFL := Lib.hid hfl; have HP := Lib.hid hp
  have HNB := Lib.hid (show n ≤ 1000000001 by omega)
  clear hM hmm hn hl hlen hpS hfl hw0 hp
  go_enter Tryz.func29, Tryz.ntmps29
  go_wp2_with fail
  refine (HLC.out _).mono ?_
  rintro e w1 ⟨⟨A1, c1', rfl, hS, hcc⟩, hb1⟩
  have x1 := HB0.out.fr hb1
  have qc0 : w1.cell? ⟨w.heap.size, 0, none⟩ = some (.int .i64 2) := x1.2 0 _ rfl
  have qc1 : w1.cell? ⟨w.heap.size, 1, none⟩ = some (.string h) := x1.2 1 _ rfl
  have qc2 : w1.cell? ⟨w.heap.size, 2, none⟩ = some (.string p) := x1.2 2 _ rfl
  have qc3 : w1.cell? ⟨w.heap.size, 3, none⟩ = some (.int .i64 b) := x1.2 3 _ rfl
  have qc4 : w1.cell? ⟨w.heap.size, 4, none⟩ = some (.slice A m c) := x1.2 4 _ rfl
  have qlt : w.heap.size < w1.heap.size := x1.1
  have HX1 := Lib.hid x1
  have HS := Lib.hid hS; have HB1 := Lib.hid (fr_trans HW0.out hb1)
  clear hS hb1 hcc x1
  go_wp2
  go_loopw [4] (fun i wr => ∃ k : Nat, k ≤ n ∧ i = .int .i64 k ∧ w1 = wr ∧ (l.take k).all segOk = true) (fun i _ => n - (intOf i).toNat)
  case atStart => exact ⟨0, Nat.zero_le _, rfl, rfl, rfl⟩
  case round =>
    obtain ⟨k, hk, rfl, rfl, hall⟩ := hrel
    by_cases hlt : k < n
    · have kx : k < l.length := by have := HN.out; omega
      obtain ⟨b1, o1, rfl, l1, c1⟩ := HS.out.at_ kx
      have hdr := fun h => ball_drop (p := segOk) kx h
      have hsu := fun h => ball_succ (p := segOk) kx hall h
      have hxm := HMM.out l[k] (List.getElem_mem kx)
      have hx0 := HFL.out l[k] (List.getElem_mem kx)
      obtain ⟨x, hx⟩ : ∃ x, l[k] = x := ⟨_, rfl⟩
      rw [hx] at c1 hdr hsu hxm hx0
      have hkI : (k : Int) < (n : Int) := by omega
      have hk0 : (0 : Int) ≤ (k : Int) := by omega
      have hwr : wrap64 ((k : Int) + 1) = (k : Int) + 1 := IntWalk.wrap64_in _ (by have := HNB.out; omega)
      have HD := Lib.hid hdr; have HSU := Lib.hid hsu
      have hpf := hasP_iff hx0
      have htc := fun h => tailC_eq (x := x) h
      have htz : (x.extract 1 x.size).size ≤ 9223372036854775807 := by rw [ByteArray.size_extract]; omega
      have hso : segOk x = (!(Lib.hasPrefix (L x) [58]) || allB isTokB (tailC x)) := rfl
      obtain ⟨pf, hpe⟩ : ∃ b, Lib.hasPrefix (L x) [58] = b := ⟨_, rfl⟩
      rw [hpe] at hpf hso htc
      have hpf' : ((x[0].toNat : Int) == 58) = pf := hpf.symm
      have h1z : (1 : Int) ≤ (x.size : Int) := by omega
      cases pf
      · have HSO := Lib.hid hso
        clear hdr hsu hxm hx kx hall hso hpe hpf htc htz
        go_wp2_with fail
        go_roundw
        case measure => rw [hwr]; exact meas hlt .i64 .i64
        case rel => exact ⟨k + 1, by omega, by go_num, trivial, HSU.out (by rw [HSO.out]; rfl)⟩
      · rw [htc rfl] at hso
        have HTK0 := Lib.hid (fun W : World => ref1_Token (x.extract 1 x.size) W htz)
        obtain ⟨tk, htk⟩ : ∃ b, allB isTokB (x.extract 1 x.size) = b := ⟨_, rfl⟩
        rw [htk] at hso HTK0
        have HSO := Lib.hid hso
        clear hdr hsu hxm hx kx hall hso hpe hpf htc htz htk
        cases tk
        · go_wp2_with fail
          refine (HTK0.out _).mono ?_
          rintro e w3 ⟨rfl, rfl⟩
          go_wp2_with fail
          go_ret
          exact ⟨by rw [HM.out, HD.out (by rw [HSO.out]; rfl)]; rfl, HB1.out⟩
        · go_wp2_with fail
          refine (HTK0.out _).mono ?_
          rintro e w3 ⟨rfl, rfl⟩
          go_wp2_with fail
          go_roundw
          case measure => rw [hwr]; exact meas hlt .i64 .i64
          case rel => exact ⟨k + 1, by omega, by go_num, trivial, HSU.out (by rw [HSO.out]; rfl)⟩
    · have e : l.take k = l := List.take_of_length_le (by have := HN.out; omega)
      obtain rfl : k = n := by omega
      rw [e] at hall
      have HA := Lib.hid hall; clear hall e
      cases hq : cleanOk p
      · have HQ := Lib.hid hq; clear hq
        go_wp2_with fail
        refine (ref11_clean_at p _ _ HQ.out HP.out).mono ?_
        rintro e w2 ⟨rfl, hb2⟩
        have HB2 := Lib.hid (fr_trans HB1.out hb2)
        clear hb2
        go_wp2
        go_ret
        exact ⟨by rw [HQ.out, Bool.and_false]; rfl, HB2.out⟩
      · have HQ := Lib.hid hq; clear hq
        by_cases h1 : k ≤ 8
        · have h1' : (k : Int) ≤ 8 := by omega
          have HK := Lib.hid (ble_yes h1)
          clear h1
          go_wp2_with fail
          refine (ref11_clean_at p _ _ HQ.out HP.out).mono ?_
          rintro e w2 ⟨rfl, hb2⟩
          have HB2 := Lib.hid (fr_trans HB1.out hb2)
          clear hb2
          go_wp2
          go_ret
          exact ⟨by rw [HM.out, HA.out, HK.out, HQ.out]; rfl, HB2.out⟩
        · have h1' : decide ((k : Int) ≤ 8) = false := by simp; omega
          have HK := Lib.hid (ble_no h1)
          clear h1
          go_wp2_with fail
          refine (ref11_clean_at p _ _ HQ.out HP.out).mono ?_
          rintro e w2 ⟨rfl, hb2⟩
          have HB2 := Lib.hid (fr_trans HB1.out hb2)
          clear hb2
          go_wp2
          go_ret
          exact ⟨by rw [HM.out, HA.out, HK.out, HQ.out]; rfl, HB2.out⟩
theorem lets_succ {l : List UInt8} {k : Nat} (h : k < l.length) (hk : (l.take k).all letC = true) (hp : letC l[k] = true) : (l.take (k + 1)).all letC = true := by
  rw [List.take_succ_eq_append_getElem h, List.all_append, hk]; simp [hp]
theorem lets_drop {l : List UInt8} {k : Nat} (h : k < l.length) (hp : letC l[k] = false) : l.all letC = false := by
  rw [← List.take_append_drop k l, List.all_append, List.drop_eq_getElem_cons h, List.all_cons, hp]; simp
set_option maxRecDepth 100000 in
set_option maxHeartbeats 4000000 in
theorem ref11_path4 (h p : ByteArray) (b : Int) (A : Option Addr) (m c : Nat) (w : World) (hp : p.size ≤ 2000000) :
    Calls Tryz.prog 29 #[.agg #[.int .i64 4, .string h, .string p, .int .i64 b, .slice A m c]] w fun e w' => e = .returned (.bool (extOk p)) ∧ Below w.heap.size w w' := by
  have hw0 := fr_alloc (fr_refl w) (.cells #[.int .i64 4, .string h, .string p, .int .i64 b, .slice A m c] 38)
  have HW0 := Lib.hid hw0
  have he := extOk_eq p
  have hln : ((L p).drop 1).length = p.size - 1 := by rw [List.length_drop, L_len]
  have hhd : ∀ h0 : 0 < p.size, ((L p).head? == some 46) = ((p[0].toNat : Int) == 46) := fun h0 => by
    have h2 : (L p).head? = some p[0] := by rw [List.head?_eq_getElem?, List.getElem?_eq_getElem (show 0 < (L p).length from h0)]; rfl
    rw [h2, Bool.eq_iff_iff]
    simp only [beq_iff_eq, Option.some.injEq]
    exact ⟨fun e => by rw [e]; rfl, fun e => UInt8.toNat_inj.1 (by show p[0].toNat = 46; omega)⟩
  have hat : ∀ q (hq : q < ((L p).drop 1).length) (h : q + 1 < p.size), ((L p).drop 1)[q] = p[q + 1] := fun q hq h => by
    rw [List.getElem_drop]
    have : (L p)[1 + q]'(by rw [L_len]; omega) = p[1 + q]'(by omega) := rfl
    rw [this]
    congr 1; omega
  obtain ⟨ls, hls⟩ : ∃ ls, (L p).drop 1 = ls := ⟨_, rfl⟩
  rw [hls] at he hln
  have hat2 : ∀ q (hq : q < ls.length) (h : q + 1 < p.size), ls[q] = p[q + 1] := by subst hls; exact hat
  have HE := Lib.hid he; have HLN := Lib.hid hln; have HHD := Lib.hid hhd; have HAT := Lib.hid hat2
  clear hw0 he hln hhd hat hat2 hls
  go_enter Tryz.func29, Tryz.ntmps29
  go_wp2
  go_loopw [5] (fun i wr => ∃ j : Nat, 1 ≤ j ∧ (j ≤ p.size ∨ j = 1) ∧ i = .int .i64 j ∧ (ls.take (j - 1)).all letC = true ∧ w.alloc (.cells #[.int .i64 4, .string h, .string p, .int .i64 b, .slice A m c] 38) = wr) (fun i _ => p.size - (intOf i).toNat)
  case atStart => exact ⟨1, by omega, .inr rfl, rfl, rfl, rfl⟩
  case round =>
    obtain ⟨j, hj1, hj2, rfl, hall, rfl⟩ := hrel
    have HA := Lib.hid hall; have HJ2 := Lib.hid hj2
    clear hall hj2
    by_cases hlt : j < p.size
    · have hql : j - 1 < ls.length := by have := HLN.out; omega
      have hat := HAT.out (j - 1) hql (by omega)
      have hjj : p[j - 1 + 1]'(by omega) = p[j] := by congr 1; omega
      rw [hjj] at hat
      obtain ⟨x, hx⟩ : ∃ x, p[j] = x := ⟨_, rfl⟩
      rw [hx] at hat
      have hxI : (p[j].toNat : Int) = (x.toNat : Int) := by rw [hx]
      have hif := letC_iff x
      have HX := Lib.hid hat
      clear hat hx hjj
      cases hq : letC x
      · have HP := Lib.hid (show ¬ ((97 : Int) ≤ x.toNat ∧ (x.toNat : Int) ≤ 122) from fun h => by have := hif.2 h; rw [hq] at this; cases this)
        have HQ := Lib.hid hq; clear hq hif
        go_wp2
        all_goals first
          | (exfalso; have := HP.out; simp_all; done)
          | (exfalso; have := HP.out; simp_all; omega)
          | (go_ret
             exact ⟨by rw [HE.out, lets_drop hql (by rw [HX.out]; exact HQ.out)]; rfl, HW0.out⟩)
      · have HP := Lib.hid (hif.1 hq)
        have HQ := Lib.hid hq; clear hq hif
        go_wp2
        all_goals first
          | (exfalso; have := HP.out; simp_all; done)
          | (exfalso; have := HP.out; simp_all; omega)
          | (go_roundw
             case measure => exact meas hlt .i64 .i64
             case rel =>
               refine ⟨j + 1, by omega, .inl (by omega), by go_num, ?_, trivial⟩
               have h2 := lets_succ hql HA.out (by rw [HX.out]; exact HQ.out)
               rwa [show j - 1 + 1 = j + 1 - 1 by omega] at h2)
    · have e : ls.take (j - 1) = ls := List.take_of_length_le (by have := HLN.out; omega)
      have HA2 := Lib.hid (show ls.all letC = true by have := HA.out; rwa [e] at this)
      clear e HA
      by_cases h2 : 2 ≤ p.size
      · have h2I : (2 : Int) ≤ (p.size : Int) := by omega
        have HK2 := Lib.hid (ble_yes h2)
        by_cases h9 : p.size ≤ 9
        · have h9I : (p.size : Int) ≤ 9 := by omega
          have HK9 := Lib.hid (ble_yes h9)
          have h0 : 0 < p.size := by omega
          have hh := HHD.out h0
          obtain ⟨bb, hbb⟩ : ∃ bb, ((p[0].toNat : Int) == 46) = bb := ⟨_, rfl⟩
          rw [hbb] at hh
          have HH := Lib.hid hh
          clear hh h2 h9
          go_wp2
          go_ret
          exact ⟨by rw [HE.out, HA2.out, HK2.out, HK9.out, HH.out]; simp [hbb], HW0.out⟩
        · have h9I : ¬ (p.size : Int) ≤ 9 := by omega
          have HK9 := Lib.hid (ble_no h9)
          clear h2 h9
          go_wp2
          go_ret
          exact ⟨by rw [HE.out, HA2.out, HK2.out, HK9.out]; rfl, HW0.out⟩
      · have h2I : ¬ (2 : Int) ≤ (p.size : Int) := by omega
        have HK2 := Lib.hid (ble_no h2)
        clear h2
        go_wp2
        go_ret
        exact ⟨by rw [HE.out, HA2.out, HK2.out]; rfl, HW0.out⟩
set_option maxHeartbeats 4000000 in
theorem ref11_path (k : Int) (h p : ByteArray) (b : Int) (A : Option Addr) (m c : Nat) (w : World) (hp : p.size ≤ 2000000) :
    Calls Tryz.prog 29 #[.agg #[.int .i64 k, .string h, .string p, .int .i64 b, .slice A m c]] w fun e w' => e = .returned (.bool (pathOk k p)) ∧ Below w.heap.size w w' := by
  have hw0 := fr_alloc (fr_refl w) (.cells #[.int .i64 k, .string h, .string p, .int .i64 b, .slice A m c] 38)
  have HW0 := Lib.hid hw0
  have HP := Lib.hid hp
  by_cases k4 : k = 4
  · subst k4; exact ref11_path4 h p b A m c w hp
  by_cases k2 : k = 2
  · subst k2; exact ref11_path2 h p b A m c w hp
  by_cases k1 : k = 1
  · subst k1
    have hE : pathOk 1 p = cleanOk p := rfl
    rw [hE]
    clear hw0 hp hE
    go_enter Tryz.func29, Tryz.ntmps29
    go_wp2_with fail
    refine (ref11_clean_at p _ _ rfl HP.out).mono ?_
    rintro e w2 ⟨rfl, hb2⟩
    have HB2 := Lib.hid (fr_trans HW0.out hb2)
    clear hb2
    go_wp2
    go_ret
    exact ⟨rfl, HB2.out⟩
  by_cases k3 : k = 3
  · subst k3
    have hE : pathOk 3 p = cleanOk p := rfl
    rw [hE]
    clear hw0 hp hE
    go_enter Tryz.func29, Tryz.ntmps29
    go_wp2_with fail
    refine (ref11_clean_at p _ _ rfl HP.out).mono ?_
    rintro e w2 ⟨rfl, hb2⟩
    have HB2 := Lib.hid (fr_trans HW0.out hb2)
    clear hb2
    go_wp2
    go_ret
    exact ⟨rfl, HB2.out⟩
  · have hE : pathOk k p = false := by unfold pathOk; rw [if_neg k4, if_neg k2, if_neg (by omega)]
    rw [hE]
    have q1 : (k == 1) = false := by simpa using k1
    have q2 : (k == 2) = false := by simpa using k2
    have q3 : (k == 3) = false := by simpa using k3
    have q4 : (k == 4) = false := by simpa using k4
    clear hw0 hp hE
    go_enter Tryz.func29, Tryz.ntmps29
    go_wp2
    go_ret
    exact ⟨rfl, HW0.out⟩
theorem ref11_path_at (k : Int) (h p : ByteArray) (b : Int) (A : Option Addr) (m c : Nat) (v : Bool) (w : World) (hv : pathOk k p = v) (hp : p.size ≤ 2000000) :
    Calls Tryz.prog 29 #[.agg #[.int .i64 k, .string h, .string p, .int .i64 b, .slice A m c]] w fun e w' => e = .returned (.bool v) ∧ Below w.heap.size w w' := hv ▸ ref11_path k h p b A m c w hp
theorem ref11_hostly_at (s : ByteArray) (v : Bool) (w : World) (h : hostOk s = v) (hs : s.size ≤ 9223372036854775807) : Calls Tryz.prog 14 #[.string s] w fun e w' => e = .returned (.bool v) ∧ w = w' := h ▸ ref11_hostly s w hs
theorem ref11_IsWare_at (r : WV) (v : Bool) (w : World) (h : wareOk r = v) (ha : r.a.size ≤ 2000000) (hb : r.b.size ≤ 2000000) :
    Calls Tryz.prog 30 #[.agg #[.int .i64 r.kind, .string r.a, .string r.b, .int .i64 r.n]] w fun e w' => e = .returned (.bool v) ∧ Below w.heap.size w w' := by
  subst h; exact ref11_IsWare r.kind r.a r.b r.n w ha hb
set_option maxRecDepth 100000 in
set_option maxHeartbeats 4000000 in
theorem ref11_IsRule (k : Int) (h p : ByteArray) (b n : Int) (A : Option Addr) (m c : Nat) (ws : List WV) (w : World) (hn : ws.length = m) (hw : Wares w A ws) (hh : h.size ≤ 1000000000) (hp : p.size ≤ 2000000)
    (hws : ∀ r ∈ ws, r.a.size ≤ 2000000 ∧ r.b.size ≤ 2000000) (hm9 : m ≤ 1000000000) :
    Calls Tryz.prog 15 #[.agg #[.int .i64 k, .string h, .string p, .int .i64 b, .slice A m c], .int .i64 n] w fun e w' => e = .returned (.bool (isOkW k h p b n ws)) ∧ Below w.heap.size w w' := by
  have hw0 := fr_alloc (fr_refl w) (.cells #[.int .i64 k, .string h, .string p, .int .i64 b, .slice A m c] 38)
  have HB0 := Lib.hid (Box.new w [.int .i64 k, .string h, .string p, .int .i64 b, .slice A m c] 38)
  have HW := Lib.hid hw0
  have hh9 : h.size ≤ 9223372036854775807 := by omega
  have HH := Lib.hid hh9; have HP := Lib.hid hp
  have HWS := Lib.hid (hw.fr hw0)
  have HZ := Lib.hid hws; have HN := Lib.hid hn
  clear hw0 hh9 hh hw hws hp
  have hU : isOkW k h p b n ws = (decide (0 ≤ b) && decide (b < n) && hostOk h && Nat.ble ws.length 8 && pathOk k p && ws.all wareOk) := rfl
  rw [hn] at hU
  have HU := Lib.hid hU
  clear hU hn
  cases hr : pathOk k p
  · have HR := Lib.hid hr; clear hr
    go_enter Tryz.func15, Tryz.ntmps15
    go_wp2_with fail
    refine (ref11_path_at k h p b A m c _ _ HR.out HP.out).mono ?_
    rintro e w1 ⟨rfl, hb1⟩
    have HB1 := Lib.hid (fr_trans HW.out hb1)
    clear hb1
    go_wp2
    go_ret
    exact ⟨by rw [HU.out, HR.out]; simp, HB1.out⟩
  have HR := Lib.hid hr; clear hr
  go_enter Tryz.func15, Tryz.ntmps15
  go_wp2_with fail
  refine (ref11_path_at k h p b A m c _ _ HR.out HP.out).mono ?_
  rintro e w1 ⟨rfl, hb1⟩
  have x1 := HB0.out.fr hb1
  have qc0 : w1.cell? ⟨w.heap.size, 0, none⟩ = some (.int .i64 k) := x1.2 0 _ rfl
  have qc1 : w1.cell? ⟨w.heap.size, 1, none⟩ = some (.string h) := x1.2 1 _ rfl
  have qc2 : w1.cell? ⟨w.heap.size, 2, none⟩ = some (.string p) := x1.2 2 _ rfl
  have qc3 : w1.cell? ⟨w.heap.size, 3, none⟩ = some (.int .i64 b) := x1.2 3 _ rfl
  have qc4 : w1.cell? ⟨w.heap.size, 4, none⟩ = some (.slice A m c) := x1.2 4 _ rfl
  have qlt : w.heap.size < w1.heap.size := x1.1
  have HX1 := Lib.hid x1
  have HB1 := Lib.hid (fr_trans HW.out hb1)
  have HW1 := Lib.hid (HWS.out.fr hb1)
  clear hb1 x1
  by_cases b0 : b < 0
  · have HD := Lib.hid (show decide (0 ≤ b) = false by simp; omega)
    go_wp2
    go_ret
    exact ⟨by rw [HU.out, HD.out]; rfl, HB1.out⟩
  have HD := Lib.hid (show decide (0 ≤ b) = true by simp; omega)
  by_cases b1 : n ≤ b
  · have HE := Lib.hid (show decide (b < n) = false by simp; omega)
    go_wp2
    go_ret
    exact ⟨by rw [HU.out, HD.out, HE.out]; rfl, HB1.out⟩
  have HE := Lib.hid (show decide (b < n) = true by simp; omega)
  cases hq : hostOk h
  · have HQ := Lib.hid hq; clear hq
    go_wp2_with fail
    refine (ref11_hostly_at h _ _ HQ.out HH.out).mono ?_
    rintro e w2 ⟨rfl, rfl⟩
    go_wp2
    go_ret
    exact ⟨by rw [HU.out, HD.out, HE.out, HQ.out]; rfl, HB1.out⟩
  have HQ := Lib.hid hq; clear hq
  by_cases hm8 : 8 < m
  · have hI : (8 : Int) < (m : Int) := by omega
    have HM8 := Lib.hid (ble_no (show ¬ m ≤ 8 by omega))
    clear hm8
    go_wp2_with fail
    refine (ref11_hostly_at h _ _ HQ.out HH.out).mono ?_
    rintro e w2 ⟨rfl, rfl⟩
    go_wp2
    go_ret
    exact ⟨by rw [HU.out, HD.out, HE.out, HQ.out, HM8.out]; rfl, HB1.out⟩
  have hI : ¬ (8 : Int) < (m : Int) := by omega
  have HM8 := Lib.hid (ble_yes (show m ≤ 8 by omega))
  clear hm8
  go_wp2_with fail
  refine (ref11_hostly_at h _ _ HQ.out HH.out).mono ?_
  rintro e w2 ⟨rfl, rfl⟩
  go_wp2
  go_loopw [5] (fun i wr => ∃ j : Nat, j ≤ m ∧ i = .int .i64 j ∧ Below w1.heap.size w1 wr ∧ (ws.take j).all wareOk = true) (fun i _ => m - (intOf i).toNat)
  case atStart => exact ⟨0, Nat.zero_le _, rfl, fr_refl _, rfl⟩
  case round =>
    obtain ⟨j, hj, rfl, hb, hall⟩ := hrel
    have x2 := HX1.out.fr hb
    have rc0 : wr.cell? ⟨w.heap.size, 0, none⟩ = some (.int .i64 k) := x2.2 0 _ rfl
    have rc1 : wr.cell? ⟨w.heap.size, 1, none⟩ = some (.string h) := x2.2 1 _ rfl
    have rc2 : wr.cell? ⟨w.heap.size, 2, none⟩ = some (.string p) := x2.2 2 _ rfl
    have rc3 : wr.cell? ⟨w.heap.size, 3, none⟩ = some (.int .i64 b) := x2.2 3 _ rfl
    have rc4 : wr.cell? ⟨w.heap.size, 4, none⟩ = some (.slice A m c) := x2.2 4 _ rfl
    have rlt : w.heap.size < wr.heap.size := x2.1
    have HB := Lib.hid hb; have HA := Lib.hid hall
    clear hb hall x2
    by_cases hlt : j < m
    · have hjl : j < ws.length := by have := HN.out; omega
      obtain ⟨g, off, rfl, hgl, hc⟩ := (HW1.out.fr HB.out) (by omega)
      obtain ⟨r, hr2⟩ : ∃ r, ws[j] = r := ⟨_, rfl⟩
      have hcr := hc j hjl
      rw [hr2] at hcr
      have c0 := hcr 0 _ rfl
      have c1 := hcr 1 _ rfl
      have c2 := hcr 2 _ rfl
      have c3 := hcr 3 _ rfl
      rw [Nat.add_zero] at c0
      obtain ⟨hza, hzb⟩ := HZ.out r (by rw [← hr2]; exact List.getElem_mem hjl)
      have HR2 := Lib.hid hr2; have HZA := Lib.hid hza; have HZB := Lib.hid hzb
      clear hcr hc hr2 hza hzb
      cases hwo : wareOk r
      · have HO := Lib.hid hwo; clear hwo
        go_wp2_with fail
        refine (ref11_IsWare_at r _ _ HO.out HZA.out HZB.out).mono ?_
        rintro e w3 ⟨rfl, hb3⟩
        have HB3 := Lib.hid (fr_trans HB.out hb3)
        clear hb3 c0 c1 c2 c3
        go_wp2
        go_ret
        exact ⟨by rw [HU.out, wall_no hjl (by rw [HR2.out]; exact HO.out)]; simp, fr_trans HB1.out HB3.out⟩
      · have HO := Lib.hid hwo; clear hwo
        go_wp2_with fail
        refine (ref11_IsWare_at r _ _ HO.out HZA.out HZB.out).mono ?_
        rintro e w3 ⟨rfl, hb3⟩
        have HB3 := Lib.hid (fr_trans HB.out hb3)
        clear hb3 c0 c1 c2 c3
        go_wp2
        go_roundw
        case measure => exact meas hlt .i64 .i64
        case rel => exact ⟨j + 1, by omega, by go_num, HB3.out, wall_succ hjl HA.out (by rw [HR2.out]; exact HO.out)⟩
    · have e : ws.take j = ws := List.take_of_length_le (by have := HN.out; omega)
      have HA2 := Lib.hid (show ws.all wareOk = true by have := HA.out; rwa [e] at this)
      clear e
      go_wp2
      go_ret
      exact ⟨by rw [HU.out, HD.out, HE.out, HQ.out, HM8.out, HR.out, HA2.out]; rfl, fr_trans HB1.out HB.out⟩
end Go.Proofs.YthjnmcciejfpcaaGreatDoor
