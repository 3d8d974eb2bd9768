/- vars.Build: its walk, of at most ten thousand variables. -/
import Derived.Test.YtdlignhlliellaaDoorVy0
import Derived.Test.YtdlignhlliellaaDoorVS6
namespace Go.Proofs.YtdlignhlliellaaDoor
set_option linter.unusedVariables false
set_option linter.unusedSimpArgs false
open Go.RowKit

theorem row_pairs {w : World} {base g n cap : Nat} {l : List Pr} (h : Row w base g n cap l) : Pairs w (some ⟨g, 0, none⟩) l := fun _ =>
  ⟨g, 0, rfl, h.lt, fun k hk => by obtain ⟨h1, h2, _, _⟩ := h.at_ hk; exact ⟨by simpa using h1, by simpa using h2⟩⟩
theorem Ctx.base {w w0 wx : World} {f : Value} {l : List Pr} {n : Nat} (C : Ctx w w0 wx f l n) : Ctx w wx wx f l n := ⟨C.rows, Below.refl _ _, C.size, C.old, C.len⟩
theorem Ctx.box {w w0 wx : World} {f : Value} {l : List Pr} {n : Nat} (C : Ctx w w0 wx f l n) {b : Nat} {vs : List Value} (h : Box w0 b vs) (hb : b < w.heap.size + 3) : Box wx b vs :=
  ⟨by have := C.size; omega, fun i v hv => C.cell hb (h.2 i v hv)⟩
theorem Ctx.weak {w w0 wx : World} {f : Value} {l : List Pr} {n m : Nat} (C : Ctx w w0 wx f l n) (h : n ≤ m) : Ctx w w0 wx f l m := ⟨C.rows, C.bel, C.size, C.old, Nat.le_trans C.len h⟩
theorem two_cell {w w' : World} {g b o : Nat} {r : Option Nat} {v : Value} (h : Two g r w w') (hc : w.cell? ⟨b, o, none⟩ = some v) (h1 : b ≠ g) (h2 : r ≠ some b) : w'.cell? ⟨b, o, none⟩ = some v :=
  (World.cell?_of_block (a := ⟨b, o, none⟩) (h.block b (World.block_lt_of_cell? w _ hc) h1 h2)).trans hc
structure Bx (w wx : World) (cv rv tv : List Value) : Prop where
  c : Box wx w.heap.size cv
  r : Box wx (w.heap.size + 1) rv
  t : Box wx (w.heap.size + 2) tv
theorem Bx.mv {w w0 wx : World} {f : Value} {l : List Pr} {n : Nat} {cv rv tv : List Value} (h : Bx w w0 cv rv tv) (C : Ctx w w0 wx f l n) : Bx w wx cv rv tv :=
  ⟨C.box h.c (by omega), C.box h.r (by omega), C.box h.t (by omega)⟩
theorem Ctx.start (w : World) (a b c : Array Value) : Ctx w ((((w.alloc (.cells a 24)).alloc (.cells b 27)).alloc (.cells c 29)).alloc (.cells #[.slice none 0 0] 44)) ((((w.alloc (.cells a 24)).alloc (.cells b 27)).alloc (.cells c 29)).alloc (.cells #[.slice none 0 0] 44)) (.slice none 0 0) [] 0 := by
  refine ⟨⟨?_, World.ownsRow_nil _ _ _ _⟩, Below.refl _ _, by simp, fr_alloc (fr_alloc (fr_alloc (fr_alloc (fr_refl w) _) _) _) _, Nat.le_refl _⟩
  have := Blk.new (((w.alloc (.cells a 24)).alloc (.cells b 27)).alloc (.cells c 29)) 44 #[.slice none 0 0]
  simpa using this
theorem Bx.start (w : World) (a b c : List Value) : Bx w ((((w.alloc (.cells a.toArray 24)).alloc (.cells b.toArray 27)).alloc (.cells c.toArray 29)).alloc (.cells #[.slice none 0 0] 44)) a b c := by
  refine ⟨?_, ?_, ?_⟩
  · exact (((Box.new w a 24).fr (fr_alloc (fr_refl _) _)).fr (fr_alloc (fr_refl _) _)).fr (fr_alloc (fr_refl _) _)
  · have := ((Box.new (w.alloc (.cells a.toArray 24)) b 27).fr (fr_alloc (fr_refl _) (.cells c.toArray 29))).fr (fr_alloc (fr_refl _) (.cells #[.slice none 0 0] 44))
    simpa using this
  · have := (Box.new ((w.alloc (.cells a.toArray 24)).alloc (.cells b.toArray 27)) c 29).fr (fr_alloc (fr_refl _) (.cells #[.slice none 0 0] 44))
    simpa using this
set_option maxRecDepth 100000 in
set_option maxHeartbeats 8000000 in
theorem vars_Build (nm : ByteArray) (p : Int) (Ar : Option Addr) (nr cr : Nat) (co id he bo ou ti ba cl : Int) (m tg : ByteArray) (mn : Int) (fl : List Pr) (bd : ByteArray) (A : Option Addr) (n c : Nat) (ru : Int) (sc inf : ByteArray) (An : Option Addr) (nn cn : Nat) (ns : List Pr) (w : World)
    (hT : Tab w) (hn : fl.length = n) (hn9 : n ≤ 1000) (hp : Pairs w A fl) (hs : ∀ p ∈ fl, p.1.size ≤ 140737488351232 ∧ p.2.size ≤ 140737488351232) (hnn : ns.length = nn) (hnn9 : nn ≤ 1000) (hpn : Pairs w An ns) (hsn : ∀ p ∈ ns, p.1.size ≤ 140737488351232 ∧ p.2.size ≤ 140737488351232)
    (htz : tg.size ≤ 9223372036854775807) (hbz : bd.size ≤ 9223372036854775807) (hp1 : -9223372036854775808 ≤ p) (hp2 : p ≤ 9223372036854775807) (hc1 : 0 ≤ cl) (hc2 : cl ≤ 1000000) (hm1 : -9223372036854775808 ≤ mn) (hm2 : mn ≤ 9223372036854775807)
    (hlen : (buildL nm p cl ⟨m, tg, mn, fl, bd⟩ sc inf ns).length ≤ 10000) :
    Calls Tryd.prog 7 #[.agg (confC nm p (.slice Ar nr cr) co id he bo ou ti ba), .int .i64 cl, .agg #[.string m, .string tg, .int .i64 mn, .slice A n c, .string bd], .agg #[.int .i64 ru, .string sc, .string inf, .slice An nn cn]] w fun e w' => (∃ A' n' c' l', e = .returned (.slice A' n' c') ∧ l'.length = n' ∧ Pairs w' A' l' ∧ (∀ x, A' = some x → w.heap.size ≤ x.block) ∧ l'.Perm (buildL nm p cl ⟨m, tg, mn, fl, bd⟩ sc inf ns) ∧ Srt l') ∧ Below w.heap.size w w' := by
  unfold confC
  have hC0 := Ctx.start w #[.string nm, .int .i64 p, .slice Ar nr cr, .int .i64 co, .int .i64 id, .int .i64 he, .int .i64 bo, .int .i64 ou, .int .i64 ti, .int .i64 ba] #[.string m, .string tg, .int .i64 mn, .slice A n c, .string bd] #[.int .i64 ru, .string sc, .string inf, .slice An nn cn]
  have hX0 := Bx.start w [.string nm, .int .i64 p, .slice Ar nr cr, .int .i64 co, .int .i64 id, .int .i64 he, .int .i64 bo, .int .i64 ou, .int .i64 ti, .int .i64 ba] [.string m, .string tg, .int .i64 mn, .slice A n c, .string bd] [.int .i64 ru, .string sc, .string inf, .slice An nn cn]
  obtain ⟨p0, q0, o0, hq0⟩ : ∃ a b c, cutS tg 63 = (a, b, c) := ⟨_, _, _, rfl⟩
  have HSP := Lib.hid (fun W => st_Split tg p0 q0 o0 W hq0 (by omega))
  have hz1 := Nat.le_trans (itoaB_size (bd.size : Int) (by omega) (by omega)) (show 21 ≤ 100 by decide)
  have hz2 := Nat.le_trans (itoaB_size (cl + 1) (by omega) (by omega)) (show 21 ≤ 100 by decide)
  have hz3 := Nat.le_trans (itoaB_size mn hm1 hm2) (show 21 ≤ 100 by decide)
  have HI1 := Lib.hid (fun W hT => strconv_Itoa (bd.size : Int) (by omega) (by omega) W hT)
  have HI2 := Lib.hid (fun W hT => strconv_Itoa (cl + 1) (by omega) (by omega) W hT)
  have HI3 := Lib.hid (fun W hT => strconv_Itoa p hp1 hp2 W hT)
  have HI4 := Lib.hid (fun W hT => strconv_Itoa mn hm1 hm2 W hT)
  have HSV := Lib.hid (fun W hP => vars_server nm p Ar nr cr co id he bo ou ti ba m tg bd mn A n c fl W hn (by omega) hP (fun p hp => by have := (hs p hp).1; omega) (fun p hp => by have := (hs p hp).2; omega))
  have HG := Lib.hid (fun W hP => field_Get A c n fl ⟨#[67, 111, 110, 116, 101, 110, 116, 45, 84, 121, 112, 101]⟩ W hn (by omega) hP (by decide) (fun p hp => by have := (hs p hp).1; omega))
  have hgl : (getS fl ⟨#[67, 111, 110, 116, 101, 110, 116, 45, 84, 121, 112, 101]⟩).length ≤ 1000 := Nat.le_trans (getS_len _ _) (by omega)
  obtain ⟨x1, hx1⟩ : ∃ x, itoaB (bd.size : Int) = x := ⟨_, rfl⟩
  obtain ⟨x2, hx2⟩ : ∃ x, itoaB (cl + 1) = x := ⟨_, rfl⟩
  obtain ⟨x3, hx3⟩ : ∃ x, itoaB p = x := ⟨_, rfl⟩
  obtain ⟨x4, hx4⟩ : ∃ x, itoaB mn = x := ⟨_, rfl⟩
  obtain ⟨sv, hsv⟩ : ∃ x, serverS nm fl = x := ⟨_, rfl⟩
  obtain ⟨vs, hvs⟩ : ∃ x, getS fl ⟨#[67, 111, 110, 116, 101, 110, 116, 45, 84, 121, 112, 101]⟩ = x := ⟨_, rfl⟩
  obtain ⟨l1, e1⟩ : ∃ x, L1 ⟨m, tg, mn, fl, bd⟩ = x := ⟨_, rfl⟩
  obtain ⟨l2, e2⟩ : ∃ x, ctL vs l1 = x := ⟨_, rfl⟩
  obtain ⟨l3, e3⟩ : ∃ x, addL l2 ⟨#[71, 65, 84, 69, 87, 65, 89, 95, 73, 78, 84, 69, 82, 70, 65, 67, 69]⟩ ⟨#[67, 71, 73, 47, 49, 46, 49]⟩ = x := ⟨_, rfl⟩
  obtain ⟨l4, e4⟩ : ∃ x, someL l3 ⟨#[80, 65, 84, 72, 95, 73, 78, 70, 79]⟩ inf = x := ⟨_, rfl⟩
  obtain ⟨l5, e5⟩ : ∃ x, addL l4 ⟨#[81, 85, 69, 82, 89, 95, 83, 84, 82, 73, 78, 71]⟩ q0 = x := ⟨_, rfl⟩
  obtain ⟨l6, e6⟩ : ∃ x, addL l5 ⟨#[82, 69, 77, 79, 84, 69, 95, 65, 68, 68, 82]⟩ (⟨#[49, 48, 46, 48, 46, 48, 46]⟩ ++ x2) = x := ⟨_, rfl⟩
  obtain ⟨l7, e7⟩ : ∃ x, addL l6 ⟨#[82, 69, 81, 85, 69, 83, 84, 95, 77, 69, 84, 72, 79, 68]⟩ m = x := ⟨_, rfl⟩
  obtain ⟨l8, e8⟩ : ∃ x, addL l7 ⟨#[82, 69, 81, 85, 69, 83, 84, 95, 85, 82, 73]⟩ tg = x := ⟨_, rfl⟩
  obtain ⟨l9, e9⟩ : ∃ x, addL l8 ⟨#[83, 67, 82, 73, 80, 84, 95, 78, 65, 77, 69]⟩ sc = x := ⟨_, rfl⟩
  obtain ⟨l10, e10⟩ : ∃ x, addL l9 ⟨#[83, 69, 82, 86, 69, 82, 95, 78, 65, 77, 69]⟩ sv = x := ⟨_, rfl⟩
  obtain ⟨l11, e11⟩ : ∃ x, addL l10 ⟨#[83, 69, 82, 86, 69, 82, 95, 80, 79, 82, 84]⟩ x3 = x := ⟨_, rfl⟩
  obtain ⟨l12, e12⟩ : ∃ x, addL l11 ⟨#[83, 69, 82, 86, 69, 82, 95, 80, 82, 79, 84, 79, 67, 79, 76]⟩ (⟨#[72, 84, 84, 80, 47, 49, 46]⟩ ++ x4) = x := ⟨_, rfl⟩
  obtain ⟨l13, e13⟩ : ∃ x, addL l12 ⟨#[83, 69, 82, 86, 69, 82, 95, 83, 79, 70, 84, 87, 65, 82, 69]⟩ ⟨#[99, 111, 110, 100, 117, 105, 116]⟩ = x := ⟨_, rfl⟩
  obtain ⟨l14, e14⟩ : ∃ x, rouL ns l13 = x := ⟨_, rfl⟩
  obtain ⟨l15, e15⟩ : ∃ x, (fieldsL fl).foldl (fun a p => addL a p.1 p.2) l14 = x := ⟨_, rfl⟩
  have hbl : buildL nm p cl ⟨m, tg, mn, fl, bd⟩ sc inf ns = l15 := by
    unfold buildL L12 L8 L4
    rw [e1]
    show (fieldsL fl).foldl _ (rouL ns (addL (addL (addL (addL (addL (addL (addL (addL (addL (someL (addL (ctL (getS fl _) l1) _ _) _ _) _ (cutS tg 63).2.1) _ _) _ m) _ tg) _ _) _ (serverS nm fl)) _ _) _ (_ ++ itoaB mn)) _ _)) = l15
    rw [hvs, hq0, hx2, hx3, hx4, hsv, e2, e3, e4]
    show (fieldsL fl).foldl _ (rouL ns (addL (addL (addL (addL (addL (addL (addL (addL (addL l4 _ q0) _ _) _ m) _ tg) _ _) _ _) _ _) _ _) _ _)) = l15
    rw [e5, e6, e7, e8, e9, e10, e11, e12, e13, e14, e15]
  have hpos := buildL_pos nm p cl ⟨m, tg, mn, fl, bd⟩ sc inf ns
  rw [hbl] at hlen hpos
  rw [hx1] at HI1 hz1
  rw [hx2] at HI2 hz2
  rw [hx3] at HI3
  rw [hx4] at HI4 hz3
  rw [hsv] at HSV
  rw [hvs] at HG hgl
  obtain ⟨gk, hgk⟩ : ∃ k, vs.length = k := ⟨_, rfl⟩
  rw [hgk] at HG hgl
  have HGK := Lib.hid hgk
  have hl1N : bd.toList.isEmpty = true → l1 = [] := fun h => by rw [← e1]; unfold L1; rw [show (Req.mk m tg mn fl bd).bd = bd from rfl, h, if_pos rfl]
  have hl1Y : bd.toList.isEmpty = false → addL [] ⟨#[67, 79, 78, 84, 69, 78, 84, 95, 76, 69, 78, 71, 84, 72]⟩ x1 = l1 := fun h => by rw [← e1]; unfold L1; rw [show (Req.mk m tg mn fl bd).bd = bd from rfl, h, if_neg (by decide), hx1]
  have s2 : ¬ 9223372036854775807 < 7 + x2.size := by omega
  have s4 : ¬ 9223372036854775807 < 7 + x4.size := by omega
  have HT := Lib.hid hT; have HN := Lib.hid hn; have HP := Lib.hid hp; have HS := Lib.hid hs; have HNN := Lib.hid hnn; have HPN := Lib.hid hpn; have HSN := Lib.hid hsn
  have HLEN := Lib.hid hlen; have HPOS := Lib.hid hpos; have HBL := Lib.hid hbl; have HC0 := Lib.hid hC0; have HX0 := Lib.hid hX0
  have HLN := Lib.hid hl1N; have HLY := Lib.hid hl1Y
  have E2 := Lib.hid e2
  have E3 := Lib.hid e3
  have E4 := Lib.hid e4
  have E5 := Lib.hid e5
  have E6 := Lib.hid e6
  have E7 := Lib.hid e7
  have E8 := Lib.hid e8
  have E9 := Lib.hid e9
  have E10 := Lib.hid e10
  have E11 := Lib.hid e11
  have E12 := Lib.hid e12
  have E13 := Lib.hid e13
  have E14 := Lib.hid e14
  have E15 := Lib.hid e15
  clear hT hn hp hs hnn hpn hsn hlen hpos hbl hC0 hX0 hl1N hl1Y hq0 hx1 hx2 hx3 hx4 hsv hvs e1 e2 e3 e4 e5 e6 e7 e8 e9 e10 e11 e12 e13 e14 e15 hz1 hz2 hz3 hgk
  cases hbd : bd.toList.isEmpty
  · go_enter Tryd.func7, Tryd.ntmps7
    go_wp2_with fail
    refine (HSP.out _).mono ?_
    rintro e w0 ⟨rfl, hb1⟩
    have C0 := Lib.hid (HC0.out.fr hb1).base
    have X0 := Lib.hid (HX0.out.mv (HC0.out.fr hb1))
    clear hb1 HX0 HC0
    have Xr0 := (X0.out.mv C0.out).r
    have r0c3 : w0.cell? ⟨(w.heap.size + 1), 3, none⟩ = some (.slice A n c) := Xr0.2 3 _ rfl
    have r0c4 : w0.cell? ⟨(w.heap.size + 1), 4, none⟩ = some (.string bd) := Xr0.2 4 _ rfl
    have r0lt : (w.heap.size + 1) < w0.heap.size := Xr0.1
    go_wp2_with fail
    refine (HI1.out _ (HT.out.fr C0.out.old)).mono ?_
    rintro e w2 ⟨rfl, hb2⟩
    have C2 := Lib.hid (C0.out.fr hb2)
    clear hb2
    go_wp2_with fail
    refine (C2.out.add _ _ l1 (HLY.out hbd) (by omega)).mono ?_
    rintro e wa ⟨rfl, fa, hCa, -, -⟩
    have Ca := Lib.hid hCa
    clear hCa C2
    have Xra := (X0.out.mv Ca.out).r
    have rac3 : wa.cell? ⟨(w.heap.size + 1), 3, none⟩ = some (.slice A n c) := Xra.2 3 _ rfl
    have ralt : (w.heap.size + 1) < wa.heap.size := Xra.1
    go_wp2_with fail
    refine (HG.out _ (HP.out.fr Ca.out.old)).mono ?_
    rintro e wb ⟨⟨Ag, cg, rfl, hS, hge⟩, hbb⟩
    have Cb := Lib.hid (Ca.out.fr hbb); have HST := Lib.hid hS; have HGE := Lib.hid hge; have HFL := Lib.hid Ca.out.rows.own.lt
    clear hbb hS hge
    go_wp2
    go_loopw [37] (fun i wq => ∃ (k : Nat) (f' : Value), k ≤ gk ∧ i = .int .i64 k ∧ Ctx w w0 wq f' (ctL (vs.take k) l1) (k + 1) ∧ Fresh wb fa f' ∧ wb.heap.size ≤ wq.heap.size ∧ Strs wq Ag vs) (fun i _ => gk - (intOf i).toNat)
    case atStart => exact ⟨0, fa, Nat.zero_le _, rfl, Cb.out, Fresh.refl _ _, Nat.le_refl _, HST.out⟩
    case round =>
      obtain ⟨k, f1, hk, rfl, hCk, hFk, hzk, hSk⟩ := hrel
      have C1 := Lib.hid hCk; have HFK := Lib.hid hFk; have HSK := Lib.hid hSk
      clear hCk hFk hSk
      by_cases hlt : k < gk
      · have hkl : k < vs.length := by have := HGK.out; omega
        have hbw : ∀ x, Ag = some x → x.block < wb.heap.size := fun x hx => by
          obtain ⟨b, off, e, hbl, -⟩ := HST.out.at_ hkl
          rw [e] at hx; injection hx with hx; subst hx; exact hbl
        obtain ⟨b, off, rfl, hbl, hcell⟩ := HSK.out.at_ hkl
        have htk : ctL (vs.take (k + 1)) l1 = addL (ctL (vs.take k) l1) ⟨#[67, 79, 78, 84, 69, 78, 84, 95, 84, 89, 80, 69]⟩ vs[k] := by unfold ctL; rw [List.take_succ_eq_append_getElem hkl, List.foldl_append]; rfl
        obtain ⟨y, hy⟩ : ∃ y, vs[k] = y := ⟨_, rfl⟩
        rw [hy] at hcell htk
        have HTK := Lib.hid htk; have HBW := Lib.hid hbw
        have kI : (k : Int) < (gk : Int) := by omega
        have k0 : (0 : Int) ≤ (k : Int) := by omega
        clear hy htk hbw
        go_wp2_with fail
        refine (C1.out.add _ y _ rfl (by omega)).mono ?_
        rintro e w3 ⟨rfl, f2, hC2, hF2, hT2⟩
        have C2 := Lib.hid hC2; have HF2 := Lib.hid hF2; have HT2 := Lib.hid hT2
        clear hC2 hF2 hT2
        go_wp2
        go_roundw
        case measure => exact meas hlt .i64 .i64
        case rel =>
          have h1 := HGE.out _ rfl
          have h2 := HBW.out _ rfl
          have h3 := Ca.out.size
          refine ⟨k + 1, f2, by omega, by go_num, by rw [HTK.out]; exact C2.out, HFK.out.trans HF2.out hzk, Nat.le_trans hzk HT2.out.size, strs_two HSK.out HT2.out (fun x hx => ?_)⟩
          injection hx with hx
          subst hx
          refine ⟨by omega, fun e => ?_⟩
          rcases HFK.out with e1 | ⟨x, e1, hx⟩
          · have := (HFL.out _ (e1 ▸ e)).2; omega
          · rw [e1] at e; injection e with e; omega
      · have e : vs.take k = vs := List.take_of_length_le (by have := HGK.out; omega)
        have hC5 := C1.out.weak (m := 2000) (by omega)
        rw [e, E2.out] at hC5
        obtain ⟨w5, rfl⟩ : ∃ x, x = wr := ⟨_, rfl⟩
        obtain ⟨f5, rfl⟩ : ∃ x, x = f1 := ⟨_, rfl⟩
        have C5 := Lib.hid hC5
        clear C1 HFK HSK hC5 e Cb HST HGE HFL
        go_wp2_with fail
        refine (C5.out.add _ _ l3 E3.out (by omega)).mono ?_
        rintro e w6 ⟨rfl, f6, hC, -, -⟩
        have C6 := Lib.hid hC
        clear hC C5
        have Xt6 := (X0.out.mv C6.out).t
        have t6c2 : w6.cell? ⟨(w.heap.size + 2), 2, none⟩ = some (.string inf) := Xt6.2 2 _ rfl
        have t6lt : (w.heap.size + 2) < w6.heap.size := Xt6.1
        go_wp2_with fail
        refine (C6.out.some_ _ _ l4 E4.out (by omega)).mono ?_
        rintro e w7 ⟨rfl, f7, hC⟩
        have C7 := Lib.hid hC
        clear hC C6
        go_wp2_with fail
        refine (C7.out.add _ _ l5 E5.out (by omega)).mono ?_
        rintro e w8 ⟨rfl, f8, hC, -, -⟩
        have C8 := Lib.hid hC
        clear hC C7
        go_wp2_with fail
        refine (HI2.out _ (HT.out.fr C8.out.old)).mono ?_
        rintro e w9 ⟨rfl, hb⟩
        have C9 := Lib.hid (C8.out.fr hb)
        clear hb C8
        go_wp2_with fail
        refine (C9.out.add _ _ l6 E6.out (by omega)).mono ?_
        rintro e w10 ⟨rfl, f10, hC, -, -⟩
        have C10 := Lib.hid hC
        clear hC C9
        have Xr10 := (X0.out.mv C10.out).r
        have r10c0 : w10.cell? ⟨(w.heap.size + 1), 0, none⟩ = some (.string m) := Xr10.2 0 _ rfl
        have r10lt : (w.heap.size + 1) < w10.heap.size := Xr10.1
        go_wp2_with fail
        refine (C10.out.add _ _ l7 E7.out (by omega)).mono ?_
        rintro e w11 ⟨rfl, f11, hC, -, -⟩
        have C11 := Lib.hid hC
        clear hC C10
        have Xr11 := (X0.out.mv C11.out).r
        have r11c1 : w11.cell? ⟨(w.heap.size + 1), 1, none⟩ = some (.string tg) := Xr11.2 1 _ rfl
        have r11lt : (w.heap.size + 1) < w11.heap.size := Xr11.1
        go_wp2_with fail
        refine (C11.out.add _ _ l8 E8.out (by omega)).mono ?_
        rintro e w12 ⟨rfl, f12, hC, -, -⟩
        have C12 := Lib.hid hC
        clear hC C11
        have Xt12 := (X0.out.mv C12.out).t
        have t12c1 : w12.cell? ⟨(w.heap.size + 2), 1, none⟩ = some (.string sc) := Xt12.2 1 _ rfl
        have t12lt : (w.heap.size + 2) < w12.heap.size := Xt12.1
        go_wp2_with fail
        refine (C12.out.add _ _ l9 E9.out (by omega)).mono ?_
        rintro e w13 ⟨rfl, f13, hC, -, -⟩
        have C13 := Lib.hid hC
        clear hC C12
        have Xc13 := (X0.out.mv C13.out).c
        have u13c0 : w13.cell? ⟨w.heap.size, 0, none⟩ = some (.string nm) := Xc13.2 0 _ rfl
        have u13c1 : w13.cell? ⟨w.heap.size, 1, none⟩ = some (.int .i64 p) := Xc13.2 1 _ rfl
        have u13c2 : w13.cell? ⟨w.heap.size, 2, none⟩ = some (.slice Ar nr cr) := Xc13.2 2 _ rfl
        have u13c3 : w13.cell? ⟨w.heap.size, 3, none⟩ = some (.int .i64 co) := Xc13.2 3 _ rfl
        have u13c4 : w13.cell? ⟨w.heap.size, 4, none⟩ = some (.int .i64 id) := Xc13.2 4 _ rfl
        have u13c5 : w13.cell? ⟨w.heap.size, 5, none⟩ = some (.int .i64 he) := Xc13.2 5 _ rfl
        have u13c6 : w13.cell? ⟨w.heap.size, 6, none⟩ = some (.int .i64 bo) := Xc13.2 6 _ rfl
        have u13c7 : w13.cell? ⟨w.heap.size, 7, none⟩ = some (.int .i64 ou) := Xc13.2 7 _ rfl
        have u13c8 : w13.cell? ⟨w.heap.size, 8, none⟩ = some (.int .i64 ti) := Xc13.2 8 _ rfl
        have u13c9 : w13.cell? ⟨w.heap.size, 9, none⟩ = some (.int .i64 ba) := Xc13.2 9 _ rfl
        have u13lt : w.heap.size < w13.heap.size := Xc13.1
        have Xr13 := (X0.out.mv C13.out).r
        have r13c0 : w13.cell? ⟨(w.heap.size + 1), 0, none⟩ = some (.string m) := Xr13.2 0 _ rfl
        have r13c1 : w13.cell? ⟨(w.heap.size + 1), 1, none⟩ = some (.string tg) := Xr13.2 1 _ rfl
        have r13c2 : w13.cell? ⟨(w.heap.size + 1), 2, none⟩ = some (.int .i64 mn) := Xr13.2 2 _ rfl
        have r13c3 : w13.cell? ⟨(w.heap.size + 1), 3, none⟩ = some (.slice A n c) := Xr13.2 3 _ rfl
        have r13c4 : w13.cell? ⟨(w.heap.size + 1), 4, none⟩ = some (.string bd) := Xr13.2 4 _ rfl
        have r13lt : (w.heap.size + 1) < w13.heap.size := Xr13.1
        go_wp2_with fail
        refine (HSV.out _ (HP.out.fr C13.out.old)).mono ?_
        rintro e w14 ⟨rfl, hb⟩
        have C14 := Lib.hid (C13.out.fr hb)
        clear hb C13
        go_wp2_with fail
        refine (C14.out.add _ _ l10 E10.out (by omega)).mono ?_
        rintro e w15 ⟨rfl, f15, hC, -, -⟩
        have C15 := Lib.hid hC
        clear hC C14
        have Xc15 := (X0.out.mv C15.out).c
        have u15c1 : w15.cell? ⟨w.heap.size, 1, none⟩ = some (.int .i64 p) := Xc15.2 1 _ rfl
        have u15lt : w.heap.size < w15.heap.size := Xc15.1
        go_wp2_with fail
        refine (HI3.out _ (HT.out.fr C15.out.old)).mono ?_
        rintro e w16 ⟨rfl, hb⟩
        have C16 := Lib.hid (C15.out.fr hb)
        clear hb C15
        go_wp2_with fail
        refine (C16.out.add _ _ l11 E11.out (by omega)).mono ?_
        rintro e w17 ⟨rfl, f17, hC, -, -⟩
        have C17 := Lib.hid hC
        clear hC C16
        have Xr17 := (X0.out.mv C17.out).r
        have r17c2 : w17.cell? ⟨(w.heap.size + 1), 2, none⟩ = some (.int .i64 mn) := Xr17.2 2 _ rfl
        have r17lt : (w.heap.size + 1) < w17.heap.size := Xr17.1
        go_wp2_with fail
        refine (HI4.out _ (HT.out.fr C17.out.old)).mono ?_
        rintro e w18 ⟨rfl, hb⟩
        have C18 := Lib.hid (C17.out.fr hb)
        clear hb C17
        go_wp2_with fail
        refine (C18.out.add _ _ l12 E12.out (by omega)).mono ?_
        rintro e w19 ⟨rfl, f19, hC, -, -⟩
        have C19 := Lib.hid hC
        clear hC C18
        go_wp2_with fail
        refine (C19.out.add _ _ l13 E13.out (by omega)).mono ?_
        rintro e w20 ⟨rfl, f20, hC, -, -⟩
        have C20 := Lib.hid hC
        clear hC C19
        have Xt20 := (X0.out.mv C20.out).t
        have t20c3 : w20.cell? ⟨(w.heap.size + 2), 3, none⟩ = some (.slice An nn cn) := Xt20.2 3 _ rfl
        have t20lt : (w.heap.size + 2) < w20.heap.size := Xt20.1
        go_wp2
        go_loopw [93] (fun i wq => ∃ (k : Nat) (f' : Value), k ≤ nn ∧ i = .int .i64 k ∧ Ctx w w0 wq f' (rouL (ns.take k) l13) (3000 + k)) (fun i _ => nn - (intOf i).toNat)
        case atStart => exact ⟨0, f20, Nat.zero_le _, rfl, C20.out.weak (by omega)⟩
        case round =>
          obtain ⟨k2, g1, hk2, rfl, hCk⟩ := hrel
          have D1 := Lib.hid hCk
          clear hCk C20
          by_cases hlt2 : k2 < nn
          · have hkl : k2 < ns.length := by have := HNN.out; omega
            obtain ⟨b, off, rfl, hbl, hcell⟩ := (HPN.out.fr D1.out.old) (by omega)
            obtain ⟨h1, h2⟩ := hcell k2 hkl
            have htk : rouL (ns.take (k2 + 1)) l13 = addL (rouL (ns.take k2) l13) (⟨#[82, 79, 85, 84, 69, 95]⟩ ++ greatB ns[k2].1) ns[k2].2 := by unfold rouL; rw [List.take_succ_eq_append_getElem hkl, List.foldl_append]; rfl
            have hsz := HSN.out ns[k2] (List.getElem_mem hkl)
            obtain ⟨⟨pn, pv⟩, hpe⟩ : ∃ p, ns[k2] = p := ⟨_, rfl⟩
            rw [hpe] at h1 h2 htk hsz
            simp only at h1 h2 htk hsz
            have hgz := greatB_size pn
            have HGR := Lib.hid (fun W => vars_great pn W (by omega))
            obtain ⟨gn, hgn⟩ : ∃ x, greatB pn = x := ⟨_, rfl⟩
            rw [hgn] at htk hgz HGR
            have HTK := Lib.hid htk
            have kI : (k2 : Int) < (nn : Int) := by omega
            have k0 : (0 : Int) ≤ (k2 : Int) := by omega
            have sg : ¬ 9223372036854775807 < 6 + gn.size := by omega
            have hbx := Box.new wr [.string pn, .string pv] 37
            have b0 := hbx.at_ 0 (.string pn)
            have b1 := hbx.at_ 1 (.string pv)
            have d0 : (wr.alloc (.cells [.string pn, .string pv].toArray 37)).drew.cell? ⟨wr.heap.size, 0, none⟩ = some (.string pn) := b0
            have d1 : (wr.alloc (.cells [.string pn, .string pv].toArray 37)).drew.cell? ⟨wr.heap.size, 1, none⟩ = some (.string pv) := b1
            have D2 := Lib.hid (D1.out.fr (fr_drew (fr_alloc (fr_refl wr) (.cells [.string pn, .string pv].toArray 37))))
            have hne1 : wr.heap.size ≠ w.heap.size + 3 := by have := D1.out.size; omega
            have hne2 : g1.ownBlock ≠ some wr.heap.size := fun e => by have := (D1.out.rows.own.lt _ e).2; omega
            clear hcell hpe hgn htk hbx hsz hgz
            go_wp2_with fail
            go_region_held3 (fun w' => w'.cell? ⟨wr.heap.size, 0, none⟩ = some (.string pn) ∧ w'.cell? ⟨wr.heap.size, 1, none⟩ = some (.string pv)) (first | exact ⟨b0, b1⟩ | exact ⟨d0, d1⟩ | exact ⟨fr_cell hbg d0, fr_cell hbg d1⟩ | exact ⟨two_cell hT2 (fr_cell hbg d0) hne1 hne2, two_cell hT2 (fr_cell hbg d1) hne1 hne2⟩)
              (first
              | (have hgg := hbg; go_at_call 15; refine ((D2.out.fr hbg).add _ pv _ rfl (by omega)).mono ?_; rintro e w3 ⟨rfl, f2, hC2, -, hT2⟩)
              | (go_at_call 20; refine (HGR.out _).mono ?_; rintro e wg ⟨rfl, hbg⟩))
            all_goals
              go_wp2
              go_roundw
              case measure => exact meas hlt2 .i64 .i64
              case rel => exact ⟨k2 + 1, f2, by omega, by go_num, by rw [HTK.out]; exact hC2.weak (by omega)⟩
          · have e : ns.take k2 = ns := List.take_of_length_le (by have := HNN.out; omega)
            have hE := D1.out.weak (m := 5000) (by omega)
            rw [e, E14.out] at hE
            have F1 := Lib.hid hE
            clear D1 hE e
            obtain ⟨we, rfl⟩ : ∃ x, x = wr := ⟨_, rfl⟩
            have Xrz := (X0.out.mv F1.out).r
            have rzc3 : we.cell? ⟨(w.heap.size + 1), 3, none⟩ = some (.slice A n c) := Xrz.2 3 _ rfl
            have rzlt : (w.heap.size + 1) < we.heap.size := Xrz.1
            go_wp2_with fail
            refine (F1.out.fields A n c fl l15 E15.out (by omega) HN.out hn9 HP.out HS.out).mono ?_
            rintro e wf ⟨rfl, ff, hCf⟩
            have hown := hCf.rows.own
            have c0 : wf.cell? ⟨w.heap.size + 3, 0, none⟩ = some ff := hCf.rows.blk.cell 0
            have hszf := hCf.size; have hold := hCf.old
            clear hCf F1
            obtain ⟨z, hz15⟩ : ∃ z, l15.length = z := ⟨_, rfl⟩
            have hlz := HLEN.out; have hpz := HPOS.out
            rw [hz15] at hown hlz hpz
            obtain ⟨gb, cap, rfl, -, hgb⟩ := hown.form hpz
            have hge := own_ge hown gb rfl
            have HSO := Lib.hid (sort_all (w.heap.size + 4) gb z cap l15 wf (by omega) hown)
            have HOL := Lib.hid hold; have HZ := Lib.hid hz15
            clear hown hold hz15 hlz hpz
            go_wp2_with fail
            refine HSO.out.mono ?_
            rintro e ws ⟨rfl, l', hperm, hsrt, hrow, hgrow⟩
            have HSRT := Lib.hid hsrt
            have hP' := row_pairs hrow
            clear hsrt hrow
            have c1 : ws.cell? ⟨w.heap.size + 3, 0, none⟩ = some (.slice (some ⟨gb, 0, none⟩) z cap) := (hgrow.cell_far ⟨w.heap.size + 3, 0, none⟩ (by show w.heap.size + 3 < _; omega) (by simp; omega)).trans c0
            have HPM := Lib.hid hperm; have HPP := Lib.hid hP'; have HGW := Lib.hid hgrow
            clear hperm hP' hgrow c0
            go_wp2
            go_ret
            exact ⟨⟨some ⟨gb, 0, none⟩, z, cap, l', rfl, by rw [HPM.out.length_eq, HZ.out], HPP.out, fun x hx => by injection hx with hx; subst hx; show w.heap.size ≤ gb; omega, by rw [HBL.out]; exact HPM.out, HSRT.out⟩, HOL.out.grown HGW.out (by omega) (fun x hx => by injection hx with hx; omega)⟩
  · go_enter Tryd.func7, Tryd.ntmps7
    go_wp2_with fail
    refine (HSP.out _).mono ?_
    rintro e w0 ⟨rfl, hb1⟩
    have C0 := Lib.hid (HC0.out.fr hb1).base
    have X0 := Lib.hid (HX0.out.mv (HC0.out.fr hb1))
    clear hb1 HX0 HC0
    have Xr0 := (X0.out.mv C0.out).r
    have r0c3 : w0.cell? ⟨(w.heap.size + 1), 3, none⟩ = some (.slice A n c) := Xr0.2 3 _ rfl
    have r0c4 : w0.cell? ⟨(w.heap.size + 1), 4, none⟩ = some (.string bd) := Xr0.2 4 _ rfl
    have r0lt : (w.heap.size + 1) < w0.heap.size := Xr0.1
    obtain ⟨fa, hCa⟩ : ∃ fa, Ctx w w0 w0 fa l1 (0 + 1) := ⟨_, by rw [HLN.out hbd]; exact C0.out.weak (by omega)⟩
    have Ca := Lib.hid hCa
    clear hCa
    go_wp2_with fail
    refine (HG.out _ (HP.out.fr Ca.out.old)).mono ?_
    rintro e wb ⟨⟨Ag, cg, rfl, hS, hge⟩, hbb⟩
    have Cb := Lib.hid (Ca.out.fr hbb); have HST := Lib.hid hS; have HGE := Lib.hid hge; have HFL := Lib.hid Ca.out.rows.own.lt
    clear hbb hS hge
    go_wp2
    go_loopw [37] (fun i wq => ∃ (k : Nat) (f' : Value), k ≤ gk ∧ i = .int .i64 k ∧ Ctx w w0 wq f' (ctL (vs.take k) l1) (k + 1) ∧ Fresh wb fa f' ∧ wb.heap.size ≤ wq.heap.size ∧ Strs wq Ag vs) (fun i _ => gk - (intOf i).toNat)
    case atStart => exact ⟨0, fa, Nat.zero_le _, rfl, Cb.out, Fresh.refl _ _, Nat.le_refl _, HST.out⟩
    case round =>
      obtain ⟨k, f1, hk, rfl, hCk, hFk, hzk, hSk⟩ := hrel
      have C1 := Lib.hid hCk; have HFK := Lib.hid hFk; have HSK := Lib.hid hSk
      clear hCk hFk hSk
      by_cases hlt : k < gk
      · have hkl : k < vs.length := by have := HGK.out; omega
        have hbw : ∀ x, Ag = some x → x.block < wb.heap.size := fun x hx => by
          obtain ⟨b, off, e, hbl, -⟩ := HST.out.at_ hkl
          rw [e] at hx; injection hx with hx; subst hx; exact hbl
        obtain ⟨b, off, rfl, hbl, hcell⟩ := HSK.out.at_ hkl
        have htk : ctL (vs.take (k + 1)) l1 = addL (ctL (vs.take k) l1) ⟨#[67, 79, 78, 84, 69, 78, 84, 95, 84, 89, 80, 69]⟩ vs[k] := by unfold ctL; rw [List.take_succ_eq_append_getElem hkl, List.foldl_append]; rfl
        obtain ⟨y, hy⟩ : ∃ y, vs[k] = y := ⟨_, rfl⟩
        rw [hy] at hcell htk
        have HTK := Lib.hid htk; have HBW := Lib.hid hbw
        have kI : (k : Int) < (gk : Int) := by omega
        have k0 : (0 : Int) ≤ (k : Int) := by omega
        clear hy htk hbw
        go_wp2_with fail
        refine (C1.out.add _ y _ rfl (by omega)).mono ?_
        rintro e w3 ⟨rfl, f2, hC2, hF2, hT2⟩
        have C2 := Lib.hid hC2; have HF2 := Lib.hid hF2; have HT2 := Lib.hid hT2
        clear hC2 hF2 hT2
        go_wp2
        go_roundw
        case measure => exact meas hlt .i64 .i64
        case rel =>
          have h1 := HGE.out _ rfl
          have h2 := HBW.out _ rfl
          have h3 := Ca.out.size
          refine ⟨k + 1, f2, by omega, by go_num, by rw [HTK.out]; exact C2.out, HFK.out.trans HF2.out hzk, Nat.le_trans hzk HT2.out.size, strs_two HSK.out HT2.out (fun x hx => ?_)⟩
          injection hx with hx
          subst hx
          refine ⟨by omega, fun e => ?_⟩
          rcases HFK.out with e1 | ⟨x, e1, hx⟩
          · have := (HFL.out _ (e1 ▸ e)).2; omega
          · rw [e1] at e; injection e with e; omega
      · have e : vs.take k = vs := List.take_of_length_le (by have := HGK.out; omega)
        have hC5 := C1.out.weak (m := 2000) (by omega)
        rw [e, E2.out] at hC5
        obtain ⟨w5, rfl⟩ : ∃ x, x = wr := ⟨_, rfl⟩
        obtain ⟨f5, rfl⟩ : ∃ x, x = f1 := ⟨_, rfl⟩
        have C5 := Lib.hid hC5
        clear C1 HFK HSK hC5 e Cb HST HGE HFL
        go_wp2_with fail
        refine (C5.out.add _ _ l3 E3.out (by omega)).mono ?_
        rintro e w6 ⟨rfl, f6, hC, -, -⟩
        have C6 := Lib.hid hC
        clear hC C5
        have Xt6 := (X0.out.mv C6.out).t
        have t6c2 : w6.cell? ⟨(w.heap.size + 2), 2, none⟩ = some (.string inf) := Xt6.2 2 _ rfl
        have t6lt : (w.heap.size + 2) < w6.heap.size := Xt6.1
        go_wp2_with fail
        refine (C6.out.some_ _ _ l4 E4.out (by omega)).mono ?_
        rintro e w7 ⟨rfl, f7, hC⟩
        have C7 := Lib.hid hC
        clear hC C6
        go_wp2_with fail
        refine (C7.out.add _ _ l5 E5.out (by omega)).mono ?_
        rintro e w8 ⟨rfl, f8, hC, -, -⟩
        have C8 := Lib.hid hC
        clear hC C7
        go_wp2_with fail
        refine (HI2.out _ (HT.out.fr C8.out.old)).mono ?_
        rintro e w9 ⟨rfl, hb⟩
        have C9 := Lib.hid (C8.out.fr hb)
        clear hb C8
        go_wp2_with fail
        refine (C9.out.add _ _ l6 E6.out (by omega)).mono ?_
        rintro e w10 ⟨rfl, f10, hC, -, -⟩
        have C10 := Lib.hid hC
        clear hC C9
        have Xr10 := (X0.out.mv C10.out).r
        have r10c0 : w10.cell? ⟨(w.heap.size + 1), 0, none⟩ = some (.string m) := Xr10.2 0 _ rfl
        have r10lt : (w.heap.size + 1) < w10.heap.size := Xr10.1
        go_wp2_with fail
        refine (C10.out.add _ _ l7 E7.out (by omega)).mono ?_
        rintro e w11 ⟨rfl, f11, hC, -, -⟩
        have C11 := Lib.hid hC
        clear hC C10
        have Xr11 := (X0.out.mv C11.out).r
        have r11c1 : w11.cell? ⟨(w.heap.size + 1), 1, none⟩ = some (.string tg) := Xr11.2 1 _ rfl
        have r11lt : (w.heap.size + 1) < w11.heap.size := Xr11.1
        go_wp2_with fail
        refine (C11.out.add _ _ l8 E8.out (by omega)).mono ?_
        rintro e w12 ⟨rfl, f12, hC, -, -⟩
        have C12 := Lib.hid hC
        clear hC C11
        have Xt12 := (X0.out.mv C12.out).t
        have t12c1 : w12.cell? ⟨(w.heap.size + 2), 1, none⟩ = some (.string sc) := Xt12.2 1 _ rfl
        have t12lt : (w.heap.size + 2) < w12.heap.size := Xt12.1
        go_wp2_with fail
        refine (C12.out.add _ _ l9 E9.out (by omega)).mono ?_
        rintro e w13 ⟨rfl, f13, hC, -, -⟩
        have C13 := Lib.hid hC
        clear hC C12
        have Xc13 := (X0.out.mv C13.out).c
        have u13c0 : w13.cell? ⟨w.heap.size, 0, none⟩ = some (.string nm) := Xc13.2 0 _ rfl
        have u13c1 : w13.cell? ⟨w.heap.size, 1, none⟩ = some (.int .i64 p) := Xc13.2 1 _ rfl
        have u13c2 : w13.cell? ⟨w.heap.size, 2, none⟩ = some (.slice Ar nr cr) := Xc13.2 2 _ rfl
        have u13c3 : w13.cell? ⟨w.heap.size, 3, none⟩ = some (.int .i64 co) := Xc13.2 3 _ rfl
        have u13c4 : w13.cell? ⟨w.heap.size, 4, none⟩ = some (.int .i64 id) := Xc13.2 4 _ rfl
        have u13c5 : w13.cell? ⟨w.heap.size, 5, none⟩ = some (.int .i64 he) := Xc13.2 5 _ rfl
        have u13c6 : w13.cell? ⟨w.heap.size, 6, none⟩ = some (.int .i64 bo) := Xc13.2 6 _ rfl
        have u13c7 : w13.cell? ⟨w.heap.size, 7, none⟩ = some (.int .i64 ou) := Xc13.2 7 _ rfl
        have u13c8 : w13.cell? ⟨w.heap.size, 8, none⟩ = some (.int .i64 ti) := Xc13.2 8 _ rfl
        have u13c9 : w13.cell? ⟨w.heap.size, 9, none⟩ = some (.int .i64 ba) := Xc13.2 9 _ rfl
        have u13lt : w.heap.size < w13.heap.size := Xc13.1
        have Xr13 := (X0.out.mv C13.out).r
        have r13c0 : w13.cell? ⟨(w.heap.size + 1), 0, none⟩ = some (.string m) := Xr13.2 0 _ rfl
        have r13c1 : w13.cell? ⟨(w.heap.size + 1), 1, none⟩ = some (.string tg) := Xr13.2 1 _ rfl
        have r13c2 : w13.cell? ⟨(w.heap.size + 1), 2, none⟩ = some (.int .i64 mn) := Xr13.2 2 _ rfl
        have r13c3 : w13.cell? ⟨(w.heap.size + 1), 3, none⟩ = some (.slice A n c) := Xr13.2 3 _ rfl
        have r13c4 : w13.cell? ⟨(w.heap.size + 1), 4, none⟩ = some (.string bd) := Xr13.2 4 _ rfl
        have r13lt : (w.heap.size + 1) < w13.heap.size := Xr13.1
        go_wp2_with fail
        refine (HSV.out _ (HP.out.fr C13.out.old)).mono ?_
        rintro e w14 ⟨rfl, hb⟩
        have C14 := Lib.hid (C13.out.fr hb)
        clear hb C13
        go_wp2_with fail
        refine (C14.out.add _ _ l10 E10.out (by omega)).mono ?_
        rintro e w15 ⟨rfl, f15, hC, -, -⟩
        have C15 := Lib.hid hC
        clear hC C14
        have Xc15 := (X0.out.mv C15.out).c
        have u15c1 : w15.cell? ⟨w.heap.size, 1, none⟩ = some (.int .i64 p) := Xc15.2 1 _ rfl
        have u15lt : w.heap.size < w15.heap.size := Xc15.1
        go_wp2_with fail
        refine (HI3.out _ (HT.out.fr C15.out.old)).mono ?_
        rintro e w16 ⟨rfl, hb⟩
        have C16 := Lib.hid (C15.out.fr hb)
        clear hb C15
        go_wp2_with fail
        refine (C16.out.add _ _ l11 E11.out (by omega)).mono ?_
        rintro e w17 ⟨rfl, f17, hC, -, -⟩
        have C17 := Lib.hid hC
        clear hC C16
        have Xr17 := (X0.out.mv C17.out).r
        have r17c2 : w17.cell? ⟨(w.heap.size + 1), 2, none⟩ = some (.int .i64 mn) := Xr17.2 2 _ rfl
        have r17lt : (w.heap.size + 1) < w17.heap.size := Xr17.1
        go_wp2_with fail
        refine (HI4.out _ (HT.out.fr C17.out.old)).mono ?_
        rintro e w18 ⟨rfl, hb⟩
        have C18 := Lib.hid (C17.out.fr hb)
        clear hb C17
        go_wp2_with fail
        refine (C18.out.add _ _ l12 E12.out (by omega)).mono ?_
        rintro e w19 ⟨rfl, f19, hC, -, -⟩
        have C19 := Lib.hid hC
        clear hC C18
        go_wp2_with fail
        refine (C19.out.add _ _ l13 E13.out (by omega)).mono ?_
        rintro e w20 ⟨rfl, f20, hC, -, -⟩
        have C20 := Lib.hid hC
        clear hC C19
        have Xt20 := (X0.out.mv C20.out).t
        have t20c3 : w20.cell? ⟨(w.heap.size + 2), 3, none⟩ = some (.slice An nn cn) := Xt20.2 3 _ rfl
        have t20lt : (w.heap.size + 2) < w20.heap.size := Xt20.1
        go_wp2
        go_loopw [93] (fun i wq => ∃ (k : Nat) (f' : Value), k ≤ nn ∧ i = .int .i64 k ∧ Ctx w w0 wq f' (rouL (ns.take k) l13) (3000 + k)) (fun i _ => nn - (intOf i).toNat)
        case atStart => exact ⟨0, f20, Nat.zero_le _, rfl, C20.out.weak (by omega)⟩
        case round =>
          obtain ⟨k2, g1, hk2, rfl, hCk⟩ := hrel
          have D1 := Lib.hid hCk
          clear hCk C20
          by_cases hlt2 : k2 < nn
          · have hkl : k2 < ns.length := by have := HNN.out; omega
            obtain ⟨b, off, rfl, hbl, hcell⟩ := (HPN.out.fr D1.out.old) (by omega)
            obtain ⟨h1, h2⟩ := hcell k2 hkl
            have htk : rouL (ns.take (k2 + 1)) l13 = addL (rouL (ns.take k2) l13) (⟨#[82, 79, 85, 84, 69, 95]⟩ ++ greatB ns[k2].1) ns[k2].2 := by unfold rouL; rw [List.take_succ_eq_append_getElem hkl, List.foldl_append]; rfl
            have hsz := HSN.out ns[k2] (List.getElem_mem hkl)
            obtain ⟨⟨pn, pv⟩, hpe⟩ : ∃ p, ns[k2] = p := ⟨_, rfl⟩
            rw [hpe] at h1 h2 htk hsz
            simp only at h1 h2 htk hsz
            have hgz := greatB_size pn
            have HGR := Lib.hid (fun W => vars_great pn W (by omega))
            obtain ⟨gn, hgn⟩ : ∃ x, greatB pn = x := ⟨_, rfl⟩
            rw [hgn] at htk hgz HGR
            have HTK := Lib.hid htk
            have kI : (k2 : Int) < (nn : Int) := by omega
            have k0 : (0 : Int) ≤ (k2 : Int) := by omega
            have sg : ¬ 9223372036854775807 < 6 + gn.size := by omega
            have hbx := Box.new wr [.string pn, .string pv] 37
            have b0 := hbx.at_ 0 (.string pn)
            have b1 := hbx.at_ 1 (.string pv)
            have d0 : (wr.alloc (.cells [.string pn, .string pv].toArray 37)).drew.cell? ⟨wr.heap.size, 0, none⟩ = some (.string pn) := b0
            have d1 : (wr.alloc (.cells [.string pn, .string pv].toArray 37)).drew.cell? ⟨wr.heap.size, 1, none⟩ = some (.string pv) := b1
            have D2 := Lib.hid (D1.out.fr (fr_drew (fr_alloc (fr_refl wr) (.cells [.string pn, .string pv].toArray 37))))
            have hne1 : wr.heap.size ≠ w.heap.size + 3 := by have := D1.out.size; omega
            have hne2 : g1.ownBlock ≠ some wr.heap.size := fun e => by have := (D1.out.rows.own.lt _ e).2; omega
            clear hcell hpe hgn htk hbx hsz hgz
            go_wp2_with fail
            go_region_held3 (fun w' => w'.cell? ⟨wr.heap.size, 0, none⟩ = some (.string pn) ∧ w'.cell? ⟨wr.heap.size, 1, none⟩ = some (.string pv)) (first | exact ⟨b0, b1⟩ | exact ⟨d0, d1⟩ | exact ⟨fr_cell hbg d0, fr_cell hbg d1⟩ | exact ⟨two_cell hT2 (fr_cell hbg d0) hne1 hne2, two_cell hT2 (fr_cell hbg d1) hne1 hne2⟩)
              (first
              | (have hgg := hbg; go_at_call 15; refine ((D2.out.fr hbg).add _ pv _ rfl (by omega)).mono ?_; rintro e w3 ⟨rfl, f2, hC2, -, hT2⟩)
              | (go_at_call 20; refine (HGR.out _).mono ?_; rintro e wg ⟨rfl, hbg⟩))
            all_goals
              go_wp2
              go_roundw
              case measure => exact meas hlt2 .i64 .i64
              case rel => exact ⟨k2 + 1, f2, by omega, by go_num, by rw [HTK.out]; exact hC2.weak (by omega)⟩
          · have e : ns.take k2 = ns := List.take_of_length_le (by have := HNN.out; omega)
            have hE := D1.out.weak (m := 5000) (by omega)
            rw [e, E14.out] at hE
            have F1 := Lib.hid hE
            clear D1 hE e
            obtain ⟨we, rfl⟩ : ∃ x, x = wr := ⟨_, rfl⟩
            have Xrz := (X0.out.mv F1.out).r
            have rzc3 : we.cell? ⟨(w.heap.size + 1), 3, none⟩ = some (.slice A n c) := Xrz.2 3 _ rfl
            have rzlt : (w.heap.size + 1) < we.heap.size := Xrz.1
            go_wp2_with fail
            refine (F1.out.fields A n c fl l15 E15.out (by omega) HN.out hn9 HP.out HS.out).mono ?_
            rintro e wf ⟨rfl, ff, hCf⟩
            have hown := hCf.rows.own
            have c0 : wf.cell? ⟨w.heap.size + 3, 0, none⟩ = some ff := hCf.rows.blk.cell 0
            have hszf := hCf.size; have hold := hCf.old
            clear hCf F1
            obtain ⟨z, hz15⟩ : ∃ z, l15.length = z := ⟨_, rfl⟩
            have hlz := HLEN.out; have hpz := HPOS.out
            rw [hz15] at hown hlz hpz
            obtain ⟨gb, cap, rfl, -, hgb⟩ := hown.form hpz
            have hge := own_ge hown gb rfl
            have HSO := Lib.hid (sort_all (w.heap.size + 4) gb z cap l15 wf (by omega) hown)
            have HOL := Lib.hid hold; have HZ := Lib.hid hz15
            clear hown hold hz15 hlz hpz
            go_wp2_with fail
            refine HSO.out.mono ?_
            rintro e ws ⟨rfl, l', hperm, hsrt, hrow, hgrow⟩
            have HSRT := Lib.hid hsrt
            have hP' := row_pairs hrow
            clear hsrt hrow
            have c1 : ws.cell? ⟨w.heap.size + 3, 0, none⟩ = some (.slice (some ⟨gb, 0, none⟩) z cap) := (hgrow.cell_far ⟨w.heap.size + 3, 0, none⟩ (by show w.heap.size + 3 < _; omega) (by simp; omega)).trans c0
            have HPM := Lib.hid hperm; have HPP := Lib.hid hP'; have HGW := Lib.hid hgrow
            clear hperm hP' hgrow c0
            go_wp2
            go_ret
            exact ⟨⟨some ⟨gb, 0, none⟩, z, cap, l', rfl, by rw [HPM.out.length_eq, HZ.out], HPP.out, fun x hx => by injection hx with hx; subst hx; show w.heap.size ≤ gb; omega, by rw [HBL.out]; exact HPM.out, HSRT.out⟩, HOL.out.grown HGW.out (by omega) (fun x hx => by injection hx with hx; omega)⟩
end Go.Proofs.YtdlignhlliellaaDoor
