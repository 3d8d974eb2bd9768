/- conduitref11.put: a variable is put into a row that rises by names. -/
import Derived.Test.YtdlignhlliellaaDoorWPl
namespace Go.Proofs.YtdlignhlliellaaDoor
set_option linter.unusedVariables false
set_option linter.unusedSimpArgs false
open Go.RowKit

/-- append at a step of a region that draws, whatever the slots are written like -/
theorem step_app {P : Program} {w : World} {o : Oper} {a : Act} {K : Act → World → Prop} {Q : Exit → Act → World → Prop} {E : Prop} {T : Nat → Option Bool} (hgd : o.guard = none) (s x : Operand) (t : TypeId)
    (ho : o.op = .call { callee := .builtin .append, args := #[s, x], argTypes := #[t, t] })
    (base : Nat) (e : TypeId) (i : TypeInfo) (z : Value) (size bytes : Nat) (ht : P.underlying t = some (.slice e)) (hi : P.info? e = some i) (hz : i.zero = some z)
    (hsize : i.size = size) (hby : i.bytes = bytes) (hzs : z.cells.size = size) (hsz : 0 < size)
    (v : Value) (n : Nat) (xs : List Value) (hs : a.eval s = v) (hown : w.ownsRow base e size v n xs)
    (ad : Addr) (m c : Nat) (news : List Value) (hx : a.eval x = .slice (some ad) m c) (hl : news.length = m * size) (hnews : ∀ j u, news[j]? = some u → w.cell? (ad.add j) = some u) (h1 : ∀ u ∈ news, u.oneCell' = true)
    (hm : 0 < m) (h63 : n + m ≤ maxLen) (hbytes : (n + m) * bytes ≤ 140737488355328) (hbase : base ≤ w.heap.size) (H : Nat) (hH : w.heap.size = H)
    (h : ∀ g cap w', w'.ownsRow base e size (.slice (some ⟨g, 0, none⟩) (n + m) cap) (n + m) (xs ++ news) → w.grownBy w' v.ownBlock → (v.ownBlock = some g ∨ g = H) → g < w'.heap.size → K (a.put o.dst (.slice (some ⟨g, 0, none⟩) (n + m) cap)) w') :
    if Region.wanted o T = true then Oper.wp P o a w K Q else E := by
  have hw : Region.wanted o T = true := by simp [Region.wanted, hgd]
  rw [if_pos hw]
  exact wp_append_lies w s x t ho base e i z size bytes ht hi hz hsize hby hzs hsz v n xs hs hown ad m c news hx hl hnews h1 hm h63 hbytes hbase H hH h
set_option maxRecDepth 100000 in
set_option maxHeartbeats 8000000 in
theorem ref_put (A : Option Addr) (n c : Nat) (l : List Pr) (nm v : ByteArray) (w : World) (hn : l.length = n) (hn9 : n ≤ 1000) (hc : n ≤ c) (hp : Pairs w A l) :
    Calls Tryd.prog 26 #[.slice A n c, .string nm, .string v] w fun e w' => (∃ A' m c', e = .returned (.slice A' m c') ∧ (putL l nm v).length = m ∧ m ≤ c' ∧ Pairs w' A' (putL l nm v)) ∧ Below w.heap.size w w' := by
  have HN := Lib.hid hn; have HP := Lib.hid hp; have HN9 := Lib.hid hn9; have HC := Lib.hid hc
  obtain ⟨i0, hi0, hz0, hz1, hz2⟩ := info_parts pair_info
  clear hn hp hn9 hc
  go_enter Tryd.func26, Tryd.ntmps26
  go_wp2
  go_loop [7] (fun i => ∃ k : Nat, k ≤ n ∧ i = .int .i64 k ∧ putL l nm v = l.take k ++ putL (l.drop k) nm v) (fun i => n - (intOf i).toNat)
  case atStart => exact ⟨0, Nat.zero_le _, rfl, rfl⟩
  case round =>
    obtain ⟨k, hk, rfl, hinv⟩ := hrel
    have HI := Lib.hid hinv
    clear hinv
    by_cases hlt : k < n
    · have hkl : k < l.length := by have := HN.out; omega
      obtain ⟨b, off, rfl, hbl, hcell⟩ := HP.out (by omega)
      have h1 := (hcell k hkl).1
      have hdr := putL_drop (n := nm) (v := v) hkl
      have hst := fun a b => putL_step hkl HI.out a b
      obtain ⟨x, hx⟩ : ∃ x, l[k].1 = x := ⟨_, rfl⟩
      rw [hx] at h1 hdr hst
      obtain ⟨E, hE⟩ : ∃ e, eqB x nm = e := ⟨_, rfl⟩
      obtain ⟨G, hG⟩ : ∃ e, gtB x nm = e := ⟨_, rfl⟩
      have hE2 : (x.toList == nm.toList) = E := hE
      have hG2 : (!(Op.bytesLess x.toList nm.toList || x.toList == nm.toList)) = G := hG
      rw [hE, hG] at hdr hst
      have HDR := Lib.hid hdr; have HST := Lib.hid hst
      have HKW := Lib.hid (IntWalk.wrap64_in ((k : Int) + 1) (by have := HN9.out; omega))
      have kI : (k : Int) < (n : Int) := by omega
      have k0 : (0 : Int) ≤ (k : Int) := by omega
      clear hcell hdr hst hx hE hG
      cases E with
      | true =>
        have HR := Lib.hid (show putL l nm v = l by rw [HI.out, HDR.out, if_pos rfl, List.take_append_drop])
        go_wp2
        go_ret
        exact ⟨⟨some ⟨b, off, none⟩, n, c, rfl, by rw [HR.out, HN.out], HC.out, by rw [HR.out]; exact HP.out⟩, fr_refl _⟩
      | false =>
        have hL : Op.bytesLess x.toList nm.toList = !G := by rw [← hG2, hE2]; simp
        cases G with
        | false =>
          go_wp2
          go_round
          case measure => rw [HKW.out]; exact meas hlt .i64 .i64
          case rel => exact ⟨k + 1, hlt, by rw [HKW.out]; rfl, HST.out rfl rfl⟩
        | true =>
          have HR := Lib.hid (show putL l nm v = l.take k ++ (nm, v) :: l.drop k by rw [HI.out, HDR.out, if_neg (by decide), if_pos rfl])
          have hkc : (k : Int) ≤ (n : Int) := by omega
          have hcn := HC.out
          have hn1000 := HN9.out
          have hkc1 : k ≤ c := by omega
          have hkne : ¬ c = k := by omega
          have hnk0 : 0 < n - k := by omega
          have hnw : (w.alloc (.cells #[.string nm, .string v] 37)).drew.cell? ⟨w.heap.size, 0, none⟩ = some (.string nm) ∧ (w.alloc (.cells #[.string nm, .string v] 37)).drew.cell? ⟨w.heap.size, 1, none⟩ = some (.string v) := ⟨(Box.new w [.string nm, .string v] 37).2 0 _ rfl, (Box.new w [.string nm, .string v] 37).2 1 _ rfl⟩
          have HLT := Lib.hid (show (pcells (l.take k)).length = k * 2 by rw [pcells_len, List.length_take]; omega)
          have HPT := Lib.hid (HP.out.upto hkl)
          go_wp2_with fail
          rcases Nat.eq_zero_or_pos k with hk0 | hk0
          · subst hk0
            have HR0 := Lib.hid (show putL l nm v = (nm, v) :: l by rw [HR.out]; rfl)
            have HLD := Lib.hid (show (pcells l).length = n * 2 by rw [pcells_len, HN.out])
            go_region_law (first
              | (simp only [Act.put, List.setIfInBounds_toArray, List.set_cons_zero, List.set_cons_succ, List.getElem_toArray, List.getElem_cons_zero, List.getElem_cons_succ]; refine step_app (by rfl) _ _ _ (by rfl) w.heap.size 37 i0 _ 2 32 Tryd.underlying25 hi0 hz0 hz1 hz2 rfl (by omega) (.slice none 0 0) 0 [] (by rfl) (World.ownsRow_nil _ _ _ _) ⟨w.heap.size, 0, none⟩ 1 1 [.string nm, .string v] (by rfl) (by rfl) (by with_reducible exact (pair_news hnw.1 hnw.2)) (by simp [Value.oneCell']) (by omega) (by simp only [maxLen]; omega) (by omega) (by simp) _ rfl ?_; intro gb cb wB hownB hgB hatB hltB; have hbB : Below w.heap.size w wB := fr_grown (fr_drew (fr_alloc (fr_refl w) (.cells #[.string nm, .string v] 37))) hgB (fun k hk => by cases hk))
              | (simp only [Act.put, List.setIfInBounds_toArray, List.set_cons_zero, List.set_cons_succ, List.getElem_toArray, List.getElem_cons_zero, List.getElem_cons_succ]; refine step_app (by rfl) _ _ _ (by rfl) w.heap.size 37 i0 _ 2 32 Tryd.underlying25 hi0 hz0 hz1 hz2 rfl (by omega) (.slice (some ⟨gb, 0, none⟩) 1 cb) 1 [.string nm, .string v] (by rfl) hownB ⟨b, off, none⟩ n c (pcells l) (by rfl) HLD.out (HP.out.fr hbB).news (pcells_one _) hnk0 (by simp only [maxLen]; omega) (by omega) hbB.size _ rfl ?_; intro gc cc wC hownC hgC hatC hltC; have hbC : Below w.heap.size w wC := fr_grown hbB hgC (own_ge hownB); have hcc := own_cap hownC; have hPC : Pairs wC (some ⟨gc, 0, none⟩) ((nm, v) :: l) := own_pairs (by rw [show pcells ((nm, v) :: l) = [.string nm, .string v] ++ pcells l from rfl]; exact hownC)))
            all_goals
              go_wp2
              go_ret
              exact ⟨⟨some ⟨gc, 0, none⟩, 1 + n, cc, rfl, by rw [HR0.out, List.length_cons, HN.out]; omega, hcc, by rw [HR0.out]; exact hPC⟩, hbC⟩
          · have HLD := Lib.hid (show (pcells (l.drop k)).length = (n - k) * 2 by rw [pcells_len, List.length_drop, HN.out])
            have HPD := Lib.hid (HP.out.from_ hkl)
            have hsum : k + 1 + (n - k) = n + 1 := by omega
            go_region_law (first
              | (simp only [Act.put, List.setIfInBounds_toArray, List.set_cons_zero, List.set_cons_succ, List.getElem_toArray, List.getElem_cons_zero, List.getElem_cons_succ]; refine step_app (by rfl) _ _ _ (by rfl) w.heap.size 37 i0 _ 2 32 Tryd.underlying25 hi0 hz0 hz1 hz2 rfl (by omega) (.slice none 0 0) 0 [] (by rfl) (World.ownsRow_nil _ _ _ _) ⟨b, off, none⟩ k c (pcells (l.take k)) (by rfl) HLT.out (by with_reducible exact (HPT.out.fr (fr_drew (fr_alloc (fr_refl w) (.cells #[.string nm, .string v] 37)))).news) (pcells_one _) hk0 (by simp only [maxLen]; omega) (by omega) (by simp) _ rfl ?_; intro ga ca wA hownA hgA hatA hltA; rw [Nat.zero_add] at hownA ⊢; rw [List.nil_append] at hownA; have hbA : Below w.heap.size w wA := fr_grown (fr_drew (fr_alloc (fr_refl w) (.cells #[.string nm, .string v] 37))) hgA (fun k hk => by cases hk); have nA := And.intro (fr_cell (fr_grown (fr_refl (w.alloc (.cells #[.string nm, .string v] 37)).drew) hgA (fun k hk => by cases hk)) hnw.1) (fr_cell (fr_grown (fr_refl (w.alloc (.cells #[.string nm, .string v] 37)).drew) hgA (fun k hk => by cases hk)) hnw.2))
              | (simp only [Act.put, List.setIfInBounds_toArray, List.set_cons_zero, List.set_cons_succ, List.getElem_toArray, List.getElem_cons_zero, List.getElem_cons_succ]; refine step_app (by rfl) _ _ _ (by rfl) w.heap.size 37 i0 _ 2 32 Tryd.underlying25 hi0 hz0 hz1 hz2 rfl (by omega) (.slice none 0 0) 0 [] (by rfl) (World.ownsRow_nil _ _ _ _) ⟨b, off, none⟩ k c (pcells (l.take k)) (by rfl) HLT.out (by with_reducible exact (HPT.out.fr (fr_drew (fr_refl w))).news) (pcells_one _) hk0 (by simp only [maxLen]; omega) (by omega) (by simp) _ rfl ?_; intro ga ca wA hownA hgA hatA hltA; rw [Nat.zero_add] at hownA ⊢; rw [List.nil_append] at hownA; have hbA : Below w.heap.size w wA := fr_grown (fr_drew (fr_refl w)) hgA (fun k hk => by cases hk))
              | (simp only [Act.put, List.setIfInBounds_toArray, List.set_cons_zero, List.set_cons_succ, List.getElem_toArray, List.getElem_cons_zero, List.getElem_cons_succ]; refine step_app (by rfl) _ _ _ (by rfl) w.heap.size 37 i0 _ 2 32 Tryd.underlying25 hi0 hz0 hz1 hz2 rfl (by omega) (.slice (some ⟨ga, 0, none⟩) k ca) k (pcells (l.take k)) (by rfl) (by with_reducible exact (hownA.alloc _)) ⟨wA.heap.size, 0, none⟩ 1 1 [.string nm, .string v] (by rfl) (by rfl) (by with_reducible exact (new_cells wA [.string nm, .string v] 37)) (by simp [Value.oneCell']) (by omega) (by simp only [maxLen]; omega) (by omega) (Nat.le_trans hbA.size (by simp)) _ rfl ?_; intro gb cb wB hownB hgB hatB hltB; have hbB : Below w.heap.size w wB := fr_grown (fr_alloc hbA _) hgB (own_ge hownA))
              | (simp only [Act.put, List.setIfInBounds_toArray, List.set_cons_zero, List.set_cons_succ, List.getElem_toArray, List.getElem_cons_zero, List.getElem_cons_succ]; refine step_app (by rfl) _ _ _ (by rfl) w.heap.size 37 i0 _ 2 32 Tryd.underlying25 hi0 hz0 hz1 hz2 rfl (by omega) (.slice (some ⟨ga, 0, none⟩) k ca) k (pcells (l.take k)) (by rfl) (by with_reducible exact hownA) ⟨w.heap.size, 0, none⟩ 1 1 [.string nm, .string v] (by rfl) (by rfl) (by with_reducible exact (pair_news nA.1 nA.2)) (by simp [Value.oneCell']) (by omega) (by simp only [maxLen]; omega) (by omega) hbA.size _ rfl ?_; intro gb cb wB hownB hgB hatB hltB; have hbB : Below w.heap.size w wB := fr_grown hbA hgB (own_ge hownA))
              | (simp only [Act.put, List.setIfInBounds_toArray, List.set_cons_zero, List.set_cons_succ, List.getElem_toArray, List.getElem_cons_zero, List.getElem_cons_succ]; refine step_app (by rfl) _ _ _ (by rfl) w.heap.size 37 i0 _ 2 32 Tryd.underlying25 hi0 hz0 hz1 hz2 rfl (by omega) (.slice (some ⟨gb, 0, none⟩) (k + 1) cb) (k + 1) (pcells (l.take k) ++ [.string nm, .string v]) (by rfl) hownB ⟨b, off + k * 2, none⟩ (n - k) (c - k) (pcells (l.drop k)) (by rfl) HLD.out (HPD.out.fr hbB).news (pcells_one _) hnk0 (by simp only [maxLen]; omega) (by omega) hbB.size _ rfl ?_; intro gc cc wC hownC hgC hatC hltC; have hbC : Below w.heap.size w wC := fr_grown hbB hgC (own_ge hownB); have hcc := own_cap hownC; have hPC : Pairs wC (some ⟨gc, 0, none⟩) (l.take k ++ (nm, v) :: l.drop k) := own_pairs (by rw [pcells_mid]; exact hownC)))
            all_goals
              go_wp2
              go_ret
              exact ⟨⟨some ⟨gc, 0, none⟩, n + 1, cc, rfl, by rw [HR.out, List.length_append, List.length_cons, List.length_take, List.length_drop, HN.out]; omega, by omega, by rw [HR.out]; exact hPC⟩, hbC⟩
    · obtain rfl : k = n := by omega
      have HR := Lib.hid (show putL l nm v = l ++ [(nm, v)] by rw [HI.out, List.take_of_length_le (by have := HN.out; omega), List.drop_of_length_le (by have := HN.out; omega)]; rfl)
      have hk1000 := HN9.out
      rcases Nat.eq_zero_or_pos k with hn0 | hn0
      · subst hn0
        obtain rfl : l = [] := List.eq_nil_of_length_eq_zero HN.out
        cases A with
        | none =>
          go_wp2_with (first | (at_builtin; refine wpList_append_lies _ rfl (.tmp 43) (.tmp 47) _ rfl w.heap.size 37 i0 _ 2 32 Tryd.underlying25 hi0 hz0 hz1 hz2 rfl (by omega) (.slice none 0 0) 0 [] rfl (World.ownsRow_nil _ _ _ _) ⟨w.heap.size, 0, none⟩ 1 1 [.string nm, .string v] rfl rfl (new_cells w [.string nm, .string v] 37) (by simp [Value.oneCell']) (by omega) (by simp only [maxLen]; omega) (by omega) (by simp) _ rfl ?_; intro gb cb wB hownB hgB hatB hltB; have hbB : Below w.heap.size w wB := fr_grown (fr_alloc (fr_refl w) _) hgB (fun k hk => by cases hk); have hcc := own_cap hownB; have hPB : Pairs wB (some ⟨gb, 0, none⟩) [(nm, v)] := own_pairs hownB))
          go_ret
          exact ⟨⟨some ⟨gb, 0, none⟩, 1, cb, rfl, by rw [HR.out]; rfl, by omega, by rw [HR.out]; exact hPB⟩, hbB⟩
        | some a =>
          obtain ⟨b, off, spot⟩ := a
          go_wp2_with (first | (at_builtin; refine wpList_append_lies _ rfl (.tmp 43) (.tmp 47) _ rfl w.heap.size 37 i0 _ 2 32 Tryd.underlying25 hi0 hz0 hz1 hz2 rfl (by omega) (.slice none 0 0) 0 [] rfl (World.ownsRow_nil _ _ _ _) ⟨w.heap.size, 0, none⟩ 1 1 [.string nm, .string v] rfl rfl (new_cells w [.string nm, .string v] 37) (by simp [Value.oneCell']) (by omega) (by simp only [maxLen]; omega) (by omega) (by simp) _ rfl ?_; intro gb cb wB hownB hgB hatB hltB; have hbB : Below w.heap.size w wB := fr_grown (fr_alloc (fr_refl w) _) hgB (fun k hk => by cases hk); have hcc := own_cap hownB; have hPB : Pairs wB (some ⟨gb, 0, none⟩) [(nm, v)] := own_pairs hownB))
          go_ret
          exact ⟨⟨some ⟨gb, 0, none⟩, 1, cb, rfl, by rw [HR.out]; rfl, by omega, by rw [HR.out]; exact hPB⟩, hbB⟩
      · obtain ⟨b, off, rfl, hbl, _⟩ := HP.out (by have := HN.out; omega)
        have HLL := Lib.hid (show (pcells l).length = k * 2 by rw [pcells_len, HN.out])
        go_wp2_with (first
          | (at_builtin; refine wpList_append_lies _ rfl (.const (.slice none 0 0)) (.tmp 42) _ rfl w.heap.size 37 i0 _ 2 32 Tryd.underlying25 hi0 hz0 hz1 hz2 rfl (by omega) (.slice none 0 0) 0 [] rfl (World.ownsRow_nil _ _ _ _) ⟨b, off, none⟩ k c (pcells l) rfl HLL.out HP.out.news (pcells_one _) hn0 (by simp only [maxLen]; omega) (by omega) (Nat.le_refl _) _ rfl ?_; intro ga ca wA hownA hgA hatA hltA; rw [Nat.zero_add] at hownA ⊢; rw [List.nil_append] at hownA; have hbA : Below w.heap.size w wA := fr_grown (fr_refl w) hgA (fun k hk => by cases hk))
          | (at_builtin; refine wpList_append_lies _ rfl (.tmp 43) (.tmp 47) _ rfl w.heap.size 37 i0 _ 2 32 Tryd.underlying25 hi0 hz0 hz1 hz2 rfl (by omega) (.slice (some ⟨ga, 0, none⟩) k ca) k (pcells l) rfl (hownA.alloc _) ⟨wA.heap.size, 0, none⟩ 1 1 [.string nm, .string v] rfl rfl (new_cells wA [.string nm, .string v] 37) (by simp [Value.oneCell']) (by omega) (by simp only [maxLen]; omega) (by omega) (Nat.le_trans hbA.size (by simp)) _ rfl ?_; intro gb cb wB hownB hgB hatB hltB; have hbB : Below w.heap.size w wB := fr_grown (fr_alloc hbA _) hgB (own_ge hownA); have hcc := own_cap hownB; have hPB : Pairs wB (some ⟨gb, 0, none⟩) (l ++ [(nm, v)]) := own_pairs (by rw [pcells_snoc]; exact hownB)))
        go_ret
        exact ⟨⟨some ⟨gb, 0, none⟩, k + 1, cb, rfl, by rw [HR.out, List.length_append, HN.out]; rfl, by omega, by rw [HR.out]; exact hPB⟩, hbB⟩
end Go.Proofs.YtdlignhlliellaaDoor
