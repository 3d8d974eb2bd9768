/- path.part: what it answers. -/
import Derived.Test.YtfmnmgiefekjfaaGreatDoorOct3
import Derived.Test.YtfmnmgiefekjfaaGreatDoorSeg
namespace Go.Proofs.YtfmnmgiefekjfaaGreatDoor
set_option linter.unusedVariables false
set_option linter.unusedSimpArgs false
open Go.RowKit

def okB (c : UInt8) : Bool := !(c.toNat == 47) && !(c.toNat == 127) && decide (32 ≤ c.toNat)
def partS (s : ByteArray) : Option ByteArray := match unescS s with
  | some p => if p.all okB then some (mk p) else none
  | none => none
def partR : Option ByteArray → Value
  | some p => .tuple #[.string p, .nilIface]
  | none => .tuple #[.string ⟨#[]⟩, .iface 31 (.int .i64 10)]
theorem unescS_len {s : ByteArray} {p : List UInt8} (h : unescS s = some p) : p.length ≤ s.size := by
  have := unescA_len (L s) [] p h
  simpa [L_len] using this
theorem partS_size {s p : ByteArray} (h : partS s = some p) : p.size ≤ s.size := by
  unfold partS at h
  split at h
  · rename_i q hq
    split at h
    · injection h with h; subst h; rw [mk_size]; exact unescS_len hq
    · cases h
  · cases h
set_option maxRecDepth 100000 in
set_option maxHeartbeats 2000000 in
theorem path_part (s : ByteArray) (w : World) (hs : s.size ≤ 1000000000) :
    Calls Tryz.prog 77 #[.string s] w fun e w' => e = .returned (partR (partS s)) ∧ Below w.heap.size w w' := by
  have HC := Lib.hid (oct_Unescape s w hs)
  cases hu : unescS s with
  | none =>
    have he : partS s = none := by unfold partS; rw [hu]
    rw [he]
    rw [hu] at HC
    clear he hu
    go_enter Tryz.func77, Tryz.ntmps77
    go_wp2_with fail
    refine HC.out.mono ?_
    rintro e w1 ⟨rfl, hb1⟩
    unfold unescR
    go_wp2_with fail
    refine (is_errno 10 10 _).mono ?_
    rintro e w2 ⟨rfl, rfl⟩
    go_wp2
    go_ret2
    exact ⟨rfl, hb1⟩
  | some p =>
    have he : partS s = if p.all okB then some (mk p) else none := by unfold partS; rw [hu]
    have hpl := unescS_len hu
    rw [hu] at HC
    obtain ⟨x, hx⟩ : ∃ x, mk p = x := ⟨_, rfl⟩
    have hxl : L x = p := by rw [← hx, L_mk]
    have hxs : p.length = x.size := by rw [← hx, mk_size]
    have hx9 : x.size ≤ 9223372036854775807 := by omega
    rw [hx] at he
    have hur : unescR (some p) = .tuple #[.string x, .nilIface] := by unfold unescR; simp only [hx]
    rw [hur] at HC
    have HE := Lib.hid he; have HX := Lib.hid hxl; have HS := Lib.hid hxs
    clear he hu hx hxl hxs hur hpl hs
    go_enter Tryz.func77, Tryz.ntmps77
    go_wp2_with fail
    refine HC.out.mono ?_
    rintro e w1 ⟨rfl, hb1⟩
    go_wp2_with fail
    refine (is_nil 10 _).mono ?_
    rintro e w2 ⟨rfl, rfl⟩
    go_wp2
    go_loop [19] (fun i => ∃ k : Nat, k ≤ x.size ∧ i = .int .i64 k ∧ (p.take k).all okB = true) (fun i => x.size - (intOf i).toNat)
    case atStart => exact ⟨0, Nat.zero_le _, rfl, rfl⟩
    case round =>
      obtain ⟨k, hk, rfl, hall⟩ := hrel
      by_cases hlt : k < x.size
      · have hkl : k < p.length := by have := HS.out; omega
        have hat : p[k] = x[k] := by have := HX.out; subst this; rfl
        obtain ⟨c, hc⟩ : ∃ c, x[k] = c := ⟨_, rfl⟩
        rw [hc] at hat
        have HA := Lib.hid hall; have HAT := Lib.hid hat
        clear hall hat
        by_cases b1 : c.toNat = 47
        · have g1 : ((c.toNat : Int) == 47) = true := by simp; omega
          have hno : p.all okB = false := all_drop hkl HA.out (by rw [HAT.out]; unfold okB; simp [b1])
          have HNO := Lib.hid hno; clear hno b1
          go_wp2
          go_ret2
          exact ⟨by rw [HE.out, HNO.out]; rfl, hb1⟩
        · have g1 : ((c.toNat : Int) == 47) = false := by simp; omega
          by_cases b2 : c.toNat = 127
          · have g2 : ((c.toNat : Int) == 127) = true := by simp; omega
            have hno : p.all okB = false := all_drop hkl HA.out (by rw [HAT.out]; unfold okB; simp [b2])
            have HNO := Lib.hid hno; clear hno b1 b2
            go_wp2
            go_ret2
            exact ⟨by rw [HE.out, HNO.out]; rfl, hb1⟩
          · have g2 : ((c.toNat : Int) == 127) = false := by simp; omega
            by_cases b3 : c.toNat < 32
            · have g3 : (c.toNat : Int) < 32 := by omega
              have hno : p.all okB = false := all_drop hkl HA.out (by rw [HAT.out]; unfold okB; simp; omega)
              have HNO := Lib.hid hno; clear hno b1 b2 b3
              go_wp2
              go_ret2
              exact ⟨by rw [HE.out, HNO.out]; rfl, hb1⟩
            · have g3 : ¬ (c.toNat : Int) < 32 := by omega
              have hok : okB c = true := by unfold okB; simp; omega
              have HOK := Lib.hid hok; clear hok b1 b2 b3
              go_wp2
              go_round
              case measure => exact meas hlt .i64 .i64
              case rel => exact ⟨k + 1, by omega, by go_num, all_succ hkl HA.out (by rw [HAT.out]; exact HOK.out)⟩
      · have e : p.take k = p := List.take_of_length_le (by have := HS.out; omega)
        rw [e] at hall
        have HA := Lib.hid hall; clear hall e
        go_wp2
        go_ret2
        exact ⟨by rw [HE.out, HA.out]; rfl, hb1⟩
end Go.Proofs.YtfmnmgiefekjfaaGreatDoor
