/- weave's weaver in memory: weaving the inner spots. -/
import Derived.Test.YtoalihdempcbjaaWv5
namespace Go.Proofs.Ytoalihdempcbjaa
open Go.RowKit
open Go.Maps (Keyed)
set_option maxRecDepth 100000
set_option linter.unusedSimpArgs false
set_option linter.unusedVariables false
theorem midR_succ (R : Rt) (b n : Nat) : midR R b (n + 1) = midR R b n ++ [(inn R (n + 1) b, inn R (n + 2) b, inn R (n + 2) (b + 1)), (inn R (n + 1) b, inn R (n + 2) (b + 1), inn R (n + 1) (b + 1))] := by
  rw [midR, List.range_succ, List.flatMap_append]; simp [midR]
theorem midN_succ (R : Rt) (n : Nat) : midN R (n + 1) = midN R n ++ midR R (n + 1) (R.m - 2) := by
  rw [midN, List.range_succ, List.flatMap_append]; simp [midN]
def MyRel (B b : Nat) (R : Rt) (w : World) (m : Nat) (k : Nat) (y : Value) (wr : World) : Prop := ∃ j, 1 ≤ j ∧ j ≤ m - 1 ∧ k = m - 1 - j ∧ y = .int .i64 (j : Int) ∧ Wv wr B b R (spotsN R).length (midN R (j - 1)) ∧ Below B w wr
def MxRel (B b : Nat) (R : Rt) (w : World) (m y : Nat) (k : Nat) (x : Value) (wr : World) : Prop := ∃ j, 1 ≤ j ∧ j ≤ m - 1 ∧ k = m - 1 - j ∧ x = .int .i64 (j : Int) ∧ Wv wr B b R (spotsN R).length (midN R (y - 1) ++ midR R y (j - 1)) ∧ Below B w wr
set_option maxHeartbeats 4000000 in
theorem middle_any (B b : Nat) (R : Rt) (hR : R.ok) (hm2 : 2 ≤ R.m) (w : World) (h : Wv w B b R (spotsN R).length []) :
    Calls Try.prog 37 #[.pointer (some ⟨b, 0, none⟩)] w fun e w' => e = .returned (.tuple #[]) ∧ Wv w' B b R (spotsN R).length (midN R (R.m - 2)) ∧ Below B w w' := by
  have hm := Rt.ok_m hR
  obtain ⟨m, hm'⟩ : ∃ m, R.m = m := ⟨_, rfl⟩
  have IN := Lib.hid (fun x y hx hy ts w h => inner_any B b R hR x y hx hy ts w h)
  have IA := Lib.hid (fun x y p q hp hq hx hy ts w h => inner_at B b R hR x y p q hp hq hx hy ts w h)
  have TR := Lib.hid (fun x y z n ts hts w h => tri_any B b R x y z n ts hts w h)
  rw [hm'] at hm hm2
  have HM := Lib.hid hm'
  have HH := Lib.hid h
  have c4 := wv_most h
  rw [hm'] at c4
  have hmm : (0 : Int) ≤ (m : Int) := by omega
  have HN := Lib.hid hR
  obtain ⟨N, hN⟩ : ∃ N, (spotsN R).length = N := ⟨_, rfl⟩
  simp only [hN] at IN IA
  have HNN := Lib.hid hN
  clear hm' h hN hR
  go_enter Try.func37, Try.ntmps37
  go_wp2_with fail
  go_loopg [2] (m - 2) (fun k i wr => MyRel B b R w m k i wr)
  case atStart => exact ⟨1, by omega, by omega, by omega, rfl, HH.out, Below.refl _ _⟩
  case round =>
    obtain ⟨y, hy1, hy2, rfl, rfl, hW, hB⟩ := hrel
    have c4 := wv_most hW
    rw [HM.out] at c4
    have HW := Lib.hid hW
    have HB := Lib.hid hB
    clear hW hB
    by_cases hlt : y < m - 1
    · have hy3 : (y : Int) < (m : Int) - 1 := by omega
      go_wp2_with fail
      go_loopg [3] (m - 2) (fun k i wr => MxRel B b R w m y k i wr)
      case atStart => exact ⟨1, by omega, by omega, by omega, rfl, by simpa [midR] using HW.out, HB.out⟩
      case round =>
        obtain ⟨x, hx1, hx2, rfl, rfl, hW, hB⟩ := hrel
        have c4 := wv_most hW
        rw [HM.out] at c4
        have HW := Lib.hid (show Wv wr B b R N (midN R (y - 1) ++ midR R y (x - 1)) from HNN.out ▸ hW)
        have HB := Lib.hid hB
        have hlen : (midN R (y - 1) ++ midR R y (x - 1)).length ≤ 1000 := by
          rw [List.length_append, midN_len, midR_len, HM.out]
          have := Nat.mul_le_mul (show y - 1 ≤ 16 by omega) (show 2 * (m - 2) ≤ 32 by omega)
          omega
        have HL := Lib.hid hlen
        obtain ⟨ts, hts⟩ : ∃ ts, midN R (y - 1) ++ midR R y (x - 1) = ts := ⟨_, rfl⟩
        rw [hts] at HW HL
        have HTS := Lib.hid hts
        clear hW hB hlen hts
        by_cases hlt3 : x < m - 1
        · have hx3 : (x : Int) < (m : Int) - 1 := by omega
          have bx : 1 ≤ x ∧ x < R.m := ⟨hx1, by rw [HM.out]; omega⟩
          have by' : 1 ≤ y ∧ y < R.m := ⟨hy1, by rw [HM.out]; omega⟩
          have bx2 : 1 ≤ x + 1 ∧ x + 1 < R.m := ⟨by omega, by rw [HM.out]; omega⟩
          have by2 : 1 ≤ y + 1 ∧ y + 1 < R.m := ⟨by omega, by rw [HM.out]; omega⟩
          have I1 := Lib.hid (IN.out x y bx by' ts)
          have I2 := Lib.hid (IA.out (x + 1) (y + 1) ((x : Int) + 1) ((y : Int) + 1) (by simp) (by simp) bx2 by2 ts)
          have I3 := Lib.hid (IA.out (x + 1) y ((x : Int) + 1) (y : Int) (by simp) rfl bx2 by' ts)
          have I4 := Lib.hid (fun ts => IA.out x (y + 1) (x : Int) ((y : Int) + 1) rfl (by simp) bx by2 ts)
          have HL2 := Lib.hid (show (ts ++ [(inn R x y, inn R (x + 1) y, inn R (x + 1) (y + 1))]).length ≤ 10000 by have := HL.out; rw [List.length_append, List.length_singleton]; omega)
          clear bx by' bx2 by2
          go_wp2_with (first
            | (go_at_call 45; ((with_reducible refine (I1.out _ HW.out).mono ?_); rintro e w2 ⟨rfl, rfl⟩))
            | (go_at_call 45; ((with_reducible refine (I2.out _ HW.out).mono ?_); rintro e w2 ⟨rfl, rfl⟩))
            | (go_at_call 45; ((with_reducible refine (I3.out _ HW.out).mono ?_); rintro e w2 ⟨rfl, rfl⟩))
            | (go_at_call 36; ((with_reducible refine (TR.out (inn R x y) (inn R (x + 1) y) (inn R (x + 1) (y + 1)) _ _ (by have := HL.out; omega) _ HW.out).mono ?_); rintro e w2 ⟨rfl, hW2, hB2⟩; have HW2 := Lib.hid hW2; have HB2 := Lib.hid (HB.out.trans hB2); clear hW2 hB2))
            | (go_at_call 45; ((with_reducible refine (I4.out _ _ HW2.out).mono ?_); rintro e w3 ⟨rfl, rfl⟩))
            | (go_at_call 36; ((with_reducible refine (TR.out (inn R x y) (inn R (x + 1) (y + 1)) (inn R x (y + 1)) _ _ HL2.out _ HW2.out).mono ?_); rintro e w4 ⟨rfl, hW4, hB4⟩; have HW4 := Lib.hid hW4; have HB4 := Lib.hid (HB2.out.trans hB4); clear hW4 hB4)))
          go_roundg (m - 1 - (x + 1))
          case measure => omega
          case rel => exact ⟨x + 1, by omega, by omega, rfl, by simp, by
            have h := HW4.out
            rw [← HTS.out, ← HNN.out] at h
            obtain ⟨x', rfl⟩ : ∃ x', x = x' + 1 := ⟨x - 1, by omega⟩
            simp only [Nat.add_sub_cancel] at h ⊢
            rw [midR_succ]
            simp only [List.append_assoc, List.cons_append, List.nil_append] at h ⊢
            exact h, HB4.out⟩
        · obtain rfl : x = m - 1 := by omega
          have hx3 : ¬ ((m - 1 : Nat) : Int) < (m : Int) - 1 := by omega
          obtain ⟨l, hl⟩ : ∃ l, m - 1 = l := ⟨_, rfl⟩
          rw [hl] at hx3 HTS hx2 hx1
          rw [hl]
          have HLL := Lib.hid hl
          clear hl
          go_wp2_with fail
          go_roundg (m - 1 - (y + 1))
          case measure => omega
          case rel => exact ⟨y + 1, by omega, by omega, rfl, by simp, by
            have h := HW.out
            rw [← HTS.out, ← HNN.out] at h
            obtain ⟨y', rfl⟩ : ∃ y', y = y' + 1 := ⟨y - 1, by omega⟩
            simp only [Nat.add_sub_cancel] at h ⊢
            rw [midN_succ, HM.out, show m - 2 = l - 1 by have := HLL.out; omega]
            exact h, HB.out⟩
    · have hy3 : ¬ (y : Int) < (m : Int) - 1 := by omega
      have hy4 := Lib.hid (show y - 1 = m - 2 by omega)
      go_wp2_with fail
      go_end0
      exact ⟨rfl, by have h := HW.out; rw [hy4.out] at h; rw [HM.out]; exact h, HB.out⟩
end Go.Proofs.Ytoalihdempcbjaa
