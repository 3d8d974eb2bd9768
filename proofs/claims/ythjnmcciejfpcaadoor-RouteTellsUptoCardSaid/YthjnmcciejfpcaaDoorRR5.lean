/- conduitref11.Choose: what route.Choose answers. -/
import Derived.Test.YthjnmcciejfpcaaDoorRR4
import Derived.Test.YthjnmcciejfpcaaDoorRoute5
namespace Go.Proofs.YthjnmcciejfpcaaDoor
set_option linter.unusedVariables false
set_option linter.unusedSimpArgs false
open Go.RowKit

set_option maxHeartbeats 4000000 in
theorem ref11_Choose (A : Option Addr) (c : Nat) (l : List RV) (host p : ByteArray) (w : World) (hR : Rules w A l) (hf : ∀ r ∈ l, FitsR r.path p r.kind) (hkp : ∀ r ∈ l, 0 < r.kind) (hl : l.length ≤ 1000000000) (hh : host.size ≤ 9223372036854775807) :
    Calls Tryd.prog 9 #[.slice A l.length c, .string host, .string p] w (ChooseEnd w (chooseS l host p)) := by
  have HR := Lib.hid hR; have HF := Lib.hid hf; clear hR hf
  have HT := Lib.hid (Blk.new w 29 routeZ)
  have hw1 : Below w.heap.size w (w.alloc (.cells routeZ 29)) := fr_alloc (fr_refl _) _
  obtain ⟨hs, hhs⟩ : ∃ hs, hostS host = hs := ⟨_, rfl⟩
  have hch : chooseS l host p = if hs.toList.isEmpty then amS l ⟨#[]⟩ p else if (amS l hs p).ok then amS l hs p else amS l ⟨#[]⟩ p := by unfold chooseS; rw [hhs]
  have HCH := Lib.hid hch; clear hch
  have h1 := ref11_Host host (w.alloc (.cells routeZ 29)) hh
  rw [hhs] at h1
  have H1 := Lib.hid h1; clear h1 hhs
  obtain ⟨n, hn⟩ : ∃ n, l.length = n := ⟨_, rfl⟩
  have hA : ∀ (hs : ByteArray) (W : World), Below w.heap.size w W → Calls Tryd.prog 19 #[.slice A n c, .string hs, .string p] W (ChooseEnd W (amS l hs p)) := fun hs W hW => by
    exact ref11_among A c n l hs p W hn (HR.out.fr hW) HF.out hkp (hn ▸ hl)
  have HA := Lib.hid hA; clear hA
  rw [hn] at hl ⊢
  clear hn
  cases he : hs.toList.isEmpty
  · go_enter Tryd.func9, Tryd.ntmps9
    go_wp2_with fail
    refine H1.out.mono ?_
    rintro e w2 ⟨rfl, hb2⟩
    have hw2 := fr_trans hw1 hb2
    have HT2 := Lib.hid (HT.out.fr hb2)
    obtain ⟨b, hb⟩ : ∃ b, amS l hs p = b := ⟨_, rfl⟩
    have h3 := HA.out hs _ hw2
    rw [hb] at h3
    have H3 := Lib.hid h3; have HBE := Lib.hid hb
    clear h3 hb hb2
    go_wp2_with fail
    refine H3.out.mono ?_
    rintro e w3 ⟨⟨A3, c3, rfl, hp3⟩, hb3⟩
    have hw3 := fr_trans hw2 hb3
    have HT3 := Lib.hid (HT2.out.fr hb3)
    cases hok : b.ok
    · obtain ⟨b', hb'⟩ : ∃ b', amS l ⟨#[]⟩ p = b' := ⟨_, rfl⟩
      have h4 := HA.out ⟨#[]⟩ (w3.alloc (.cells #[.int .i64 b.rule, .string b.sc, .string b.inf, .slice A3 b.nm.length c3] 29)) (fr_alloc hw3 _)
      rw [hb'] at h4
      have H4 := Lib.hid h4; have HBE' := Lib.hid hb'
      have HT3' := Lib.hid (HT3.out.alloc (.cells #[.int .i64 b.rule, .string b.sc, .string b.inf, .slice A3 b.nm.length c3] 29))
      have HOK := Lib.hid hok; have HP3 := Lib.hid hp3; have HW3 := Lib.hid hw3
      clear h4 hb' hp3 hb3 hw2 hw3 hw1
      go_wp2_with fail
      refine H4.out.mono ?_
      rintro e w4 ⟨⟨A4, c4, rfl, hp4⟩, hb4⟩
      have hT4 := HT3'.out.fr hb4
      have tc0 : w4.cell? ⟨w.heap.size, 0, none⟩ = some (.int .i64 0) := hT4.cell 0
      have tf0 : w4.frozen? ⟨w.heap.size, 0, none⟩ = false := hT4.frozen 0
      have tc1 : w4.cell? ⟨w.heap.size, 1, none⟩ = some (.string ⟨#[]⟩) := hT4.cell 1
      have tf1 : w4.frozen? ⟨w.heap.size, 1, none⟩ = false := hT4.frozen 1
      have tc2 : w4.cell? ⟨w.heap.size, 2, none⟩ = some (.string ⟨#[]⟩) := hT4.cell 2
      have tf2 : w4.frozen? ⟨w.heap.size, 2, none⟩ = false := hT4.frozen 2
      have tc3 : w4.cell? ⟨w.heap.size, 3, none⟩ = some (.slice none 0 0) := hT4.cell 3
      have tf3 : w4.frozen? ⟨w.heap.size, 3, none⟩ = false := hT4.frozen 3
      have tlt : w.heap.size < w4.heap.size := hT4.lt
      have HT4 := Lib.hid hT4; have HP4 := Lib.hid hp4; have HB4 := Lib.hid hb4
      have hlt3 := HT3.out.lt
      clear hT4 hp4 hb4
      go_wp2_with fail
      refine bodyPost_ret (res_route (g := w.heap.size) (v0 := .int .i64 b'.rule) (v1 := .string b'.sc) (v2 := .string b'.inf) (v3 := .slice A4 b'.nm.length c4) Tryd.results9 rfl ((((HT4.out.set_ 0 _).set_ 1 _).set_ 2 _).set_ 3 _)) rfl ?_
      have e : chooseS l host p = b' := by rw [HCH.out, HBE.out, HOK.out, HBE'.out]; simp [he]
      rw [e]
      refine ⟨⟨A4, c4, rfl, ?_⟩, ?_⟩
      · exact (((((HP4.out.set_ (by simp; omega) _).set_ (by simp; omega) _).set_ (by simp; omega) _).set_ (by simp; omega) _)).more (by simp; omega)
      · have hwr := fr_trans (fr_alloc HW3.out _) HB4.out
        exact fr_set (fr_set (fr_set (fr_set hwr (by simp) _) (by simp) _) (by simp) _) (by simp) _
    · have hT4 := HT3.out
      have hlt3 := HT2.out.lt
      have tc0 : w3.cell? ⟨w.heap.size, 0, none⟩ = some (.int .i64 0) := hT4.cell 0
      have tf0 : w3.frozen? ⟨w.heap.size, 0, none⟩ = false := hT4.frozen 0
      have tc1 : w3.cell? ⟨w.heap.size, 1, none⟩ = some (.string ⟨#[]⟩) := hT4.cell 1
      have tf1 : w3.frozen? ⟨w.heap.size, 1, none⟩ = false := hT4.frozen 1
      have tc2 : w3.cell? ⟨w.heap.size, 2, none⟩ = some (.string ⟨#[]⟩) := hT4.cell 2
      have tf2 : w3.frozen? ⟨w.heap.size, 2, none⟩ = false := hT4.frozen 2
      have tc3 : w3.cell? ⟨w.heap.size, 3, none⟩ = some (.slice none 0 0) := hT4.cell 3
      have tf3 : w3.frozen? ⟨w.heap.size, 3, none⟩ = false := hT4.frozen 3
      have tlt : w.heap.size < w3.heap.size := hT4.lt
      have HOK := Lib.hid hok; have HP3 := Lib.hid hp3; have HW3 := Lib.hid hw3
      clear hT4 hp3 hb3 hw2 hw3 hw1
      go_wp2_with fail
      refine bodyPost_ret (res_route (g := w.heap.size) (v0 := .int .i64 b.rule) (v1 := .string b.sc) (v2 := .string b.inf) (v3 := .slice A3 b.nm.length c3) Tryd.results9 rfl (((((HT3.out.set_ 0 _).set_ 1 _).set_ 2 _).set_ 3 _).alloc _)) rfl ?_
      have e : chooseS l host p = b := by rw [HCH.out, HBE.out, HOK.out]; simp [he]
      rw [e]
      refine ⟨⟨A3, c3, by rw [HOK.out]; rfl, ?_⟩, ?_⟩
      · exact ((((((HP3.out.set_ (by simp; omega) _).set_ (by simp; omega) _).set_ (by simp; omega) _).set_ (by simp; omega) _)).fr (fr_alloc (fr_refl _) _)).more (by omega)
      · exact fr_alloc (fr_set (fr_set (fr_set (fr_set HW3.out (by simp) _) (by simp) _) (by simp) _) (by simp) _) _
  · obtain ⟨b', hb'⟩ : ∃ b', amS l ⟨#[]⟩ p = b' := ⟨_, rfl⟩
    go_enter Tryd.func9, Tryd.ntmps9
    go_wp2_with fail
    refine H1.out.mono ?_
    rintro e w2 ⟨rfl, hb2⟩
    have hw2 := fr_trans hw1 hb2
    have HT2 := Lib.hid (HT.out.fr hb2)
    have h4 := HA.out ⟨#[]⟩ w2 hw2
    rw [hb'] at h4
    have H4 := Lib.hid h4; have HBE' := Lib.hid hb'
    clear h4 hb' hb2
    go_wp2_with fail
    refine H4.out.mono ?_
    rintro e w4 ⟨⟨A4, c4, rfl, hp4⟩, hb4⟩
    have hT4 := HT2.out.fr hb4
    have tc0 : w4.cell? ⟨w.heap.size, 0, none⟩ = some (.int .i64 0) := hT4.cell 0
    have tf0 : w4.frozen? ⟨w.heap.size, 0, none⟩ = false := hT4.frozen 0
    have tc1 : w4.cell? ⟨w.heap.size, 1, none⟩ = some (.string ⟨#[]⟩) := hT4.cell 1
    have tf1 : w4.frozen? ⟨w.heap.size, 1, none⟩ = false := hT4.frozen 1
    have tc2 : w4.cell? ⟨w.heap.size, 2, none⟩ = some (.string ⟨#[]⟩) := hT4.cell 2
    have tf2 : w4.frozen? ⟨w.heap.size, 2, none⟩ = false := hT4.frozen 2
    have tc3 : w4.cell? ⟨w.heap.size, 3, none⟩ = some (.slice none 0 0) := hT4.cell 3
    have tf3 : w4.frozen? ⟨w.heap.size, 3, none⟩ = false := hT4.frozen 3
    have tlt : w.heap.size < w4.heap.size := hT4.lt
    have HT4 := Lib.hid hT4; have HP4 := Lib.hid hp4; have HW4 := Lib.hid (fr_trans hw2 hb4)
    have hlt3 := HT2.out.lt
    clear hT4 hp4 hb4
    go_wp2_with fail
    refine bodyPost_ret (res_route (g := w.heap.size) (v0 := .int .i64 b'.rule) (v1 := .string b'.sc) (v2 := .string b'.inf) (v3 := .slice A4 b'.nm.length c4) Tryd.results9 rfl ((((HT4.out.set_ 0 _).set_ 1 _).set_ 2 _).set_ 3 _)) rfl ?_
    have e : chooseS l host p = b' := by rw [HCH.out, HBE'.out]; simp [he]
    rw [e]
    refine ⟨⟨A4, c4, rfl, ?_⟩, ?_⟩
    · exact (((((HP4.out.set_ (by simp; omega) _).set_ (by simp; omega) _).set_ (by simp; omega) _).set_ (by simp; omega) _)).more (by omega)
    · exact fr_set (fr_set (fr_set (fr_set HW4.out (by simp) _) (by simp) _) (by simp) _) (by simp) _
end Go.Proofs.YthjnmcciejfpcaaDoor
