/- weave's weaver in memory: laying all spots. -/
import Derived.Test.YtoalihdempcbjaaWv4
namespace Go.Proofs.Ytoalihdempcbjaa
open Go.RowKit
open Go.Maps (Keyed)
set_option maxRecDepth 100000
set_option linter.unusedSimpArgs false
set_option linter.unusedVariables false
theorem spot_corn (B b : Nat) (R : Rt) (hR : R.ok) (ts : List T3) (k : Nat) (hk : k < 4) (w : World) (h : Wv w B b R k ts) :
    Calls Try.prog 44 #[.pointer (some ⟨b, 0, none⟩), .int .i64 1, .int .i64 (k : Int), .int .i64 0] w fun e w' => e = .returned (.tuple #[]) ∧ Wv w' B b R (k + 1) ts ∧ Below B w w' :=
  spot_any B b R hR (1, k, 0) (vs_corn hk) k (nm_corn R k) ts w h
theorem spot_edge (B b : Nat) (R : Rt) (hR : R.ok) (ts : List T3) (k i : Nat) (hk : k < 4) (hi : 1 ≤ i ∧ i < R.r k) (w : World) (h : Wv w B b R (offE R k + (i - 1)) ts) :
    Calls Try.prog 44 #[.pointer (some ⟨b, 0, none⟩), .int .i64 2, .int .i64 (k : Int), .int .i64 (i : Int)] w fun e w' => e = .returned (.tuple #[]) ∧ Wv w' B b R (offE R k + (i - 1) + 1) ts ∧ Below B w w' :=
  spot_any B b R hR (2, k, i) (vs_edge hk hi) _ (nm_edge R k i) ts w h
theorem spot_inn (B b : Nat) (R : Rt) (hR : R.ok) (ts : List T3) (x y : Nat) (hx : 1 ≤ x ∧ x < R.m) (hy : 1 ≤ y ∧ y < R.m) (w : World) (h : Wv w B b R (offE R 4 + (y - 1) * (R.m - 1) + (x - 1)) ts) :
    Calls Try.prog 44 #[.pointer (some ⟨b, 0, none⟩), .int .i64 3, .int .i64 (x : Int), .int .i64 (y : Int)] w fun e w' => e = .returned (.tuple #[]) ∧ Wv w' B b R (offE R 4 + (y - 1) * (R.m - 1) + (x - 1) + 1) ts ∧ Below B w w' :=
  spot_any B b R hR (3, x, y) (vs_inner hx hy) _ (by rw [nm_inner, Nat.add_assoc]) ts w h
theorem wv_most {w : World} {B b n : Nat} {R : Rt} {ts : List T3} (h : Wv w B b R n ts) : w.cell? ⟨b, 4, none⟩ = some (.int .i64 (R.m : Int)) := by
  obtain ⟨sp, tp, bm, D, h⟩ := h
  exact h.cells 4
theorem wv_rate {w : World} {B b n : Nat} {R : Rt} {ts : List T3} (h : Wv w B b R n ts) (k : Nat) (hk : k < 4) : w.cell? ⟨b, k, none⟩ = some (.int .i64 (R.r k : Int)) := by
  obtain ⟨sp, tp, bm, D, h⟩ := h
  rw [h.cells k]
  match k, hk with
  | 0, _ => rfl
  | 1, _ => rfl
  | 2, _ => rfl
  | 3, _ => rfl
def LyRel (B b : Nat) (R : Rt) (ts : List T3) (w : World) (o : Nat → Nat) (c : Nat) (k : Nat) (i : Value) (wr : World) : Prop := ∃ j, j ≤ c ∧ k = c - j ∧ i = .int .i64 (j : Int) ∧ Wv wr B b R (o j) ts ∧ Below B w wr
def LxRel (B b : Nat) (R : Rt) (ts : List T3) (w : World) (n0 c : Nat) (k : Nat) (i : Value) (wr : World) : Prop := ∃ j, 1 ≤ j ∧ j ≤ c ∧ k = c - j ∧ i = .int .i64 (j : Int) ∧ Wv wr B b R (n0 + (j - 1)) ts ∧ Below B w wr
theorem index4_0 (a b c d : Int) (w : World) : Sem.run Try.prog (Instr.index 44 (.agg #[.int .i64 a, .int .i64 b, .int .i64 c, .int .i64 d]) (.int .i64 0)) w = .ok (.int .i64 a) w := by kernel_rfl
theorem index4_1 (a b c d : Int) (w : World) : Sem.run Try.prog (Instr.index 44 (.agg #[.int .i64 a, .int .i64 b, .int .i64 c, .int .i64 d]) (.int .i64 1)) w = .ok (.int .i64 b) w := by kernel_rfl
theorem index4_2 (a b c d : Int) (w : World) : Sem.run Try.prog (Instr.index 44 (.agg #[.int .i64 a, .int .i64 b, .int .i64 c, .int .i64 d]) (.int .i64 2)) w = .ok (.int .i64 c) w := by kernel_rfl
theorem index4_3 (a b c d : Int) (w : World) : Sem.run Try.prog (Instr.index 44 (.agg #[.int .i64 a, .int .i64 b, .int .i64 c, .int .i64 d]) (.int .i64 3)) w = .ok (.int .i64 d) w := by kernel_rfl
theorem index4 (R : Rt) (k : Nat) (hk : k < 4) (w : World) : Sem.run Try.prog (Instr.index 44 (.agg #[.int .i64 (R.r0 : Int), .int .i64 (R.r1 : Int), .int .i64 (R.r2 : Int), .int .i64 (R.r3 : Int)]) (.int .i64 (k : Int))) w = .ok (.int .i64 (R.r k : Int)) w := by
  have h : k = 0 ∨ k = 1 ∨ k = 2 ∨ k = 3 := by omega
  rcases h with rfl | rfl | rfl | rfl
  · exact index4_0 _ _ _ _ w
  · exact index4_1 _ _ _ _ w
  · exact index4_2 _ _ _ _ w
  · exact index4_3 _ _ _ _ w
set_option maxHeartbeats 4000000 in
theorem lay_any (B b : Nat) (R : Rt) (hR : R.ok) (ts : List T3) (w : World) (h : Wv w B b R 0 ts) :
    Calls Try.prog 35 #[.pointer (some ⟨b, 0, none⟩)] w fun e w' => e = .returned (.tuple #[]) ∧ Wv w' B b R (spotsN R).length ts ∧ Below B w w' := by
  have HR := Lib.hid hR
  have SC := Lib.hid (fun k hk w h => spot_corn B b R hR ts k hk w h)
  have SE := Lib.hid (fun k i hk hi w h => spot_edge B b R hR ts k i hk hi w h)
  have SI := Lib.hid (fun x y hx hy w h => spot_inn B b R hR ts x y hx hy w h)
  have hm := Rt.ok_m hR
  have HRK := Lib.hid (fun k => Rt.ok_r hR k)
  have HH := Lib.hid h
  clear h
  go_enter Try.func35, Try.ntmps35
  go_wp2_with fail
  go_loopg [8] 4 (fun k i wr => LyRel B b R ts w (fun j => j) 4 k i wr)
  case atStart => exact ⟨0, by omega, rfl, rfl, HH.out, Below.refl _ _⟩
  case round =>
    obtain ⟨j, hj, rfl, rfl, hW, hB⟩ := hrel
    have HW := Lib.hid hW
    have HB := Lib.hid hB
    clear hW hB
    by_cases hlt : j < 4
    · have hj1 : (j : Int) < 4 := by omega
      go_wp2_with (go_at_call 44; ((with_reducible refine (SC.out j hlt _ HW.out).mono ?_); rintro e w2 ⟨rfl, hW2, hB2⟩; have HW2 := Lib.hid hW2; have HB2 := Lib.hid (HB.out.trans hB2); clear hW2 hB2))
      go_roundg (4 - (j + 1))
      case measure => omega
      case rel => exact ⟨j + 1, by omega, rfl, by simp, HW2.out, HB2.out⟩
    · obtain rfl : j = 4 := by omega
      have r0 := wv_rate HW.out 0 (by omega)
      have r1 := wv_rate HW.out 1 (by omega)
      have r2 := wv_rate HW.out 2 (by omega)
      have r3 := wv_rate HW.out 3 (by omega)
      simp only [Rt.r] at r0 r1 r2 r3
      go_wp2_with fail
      go_loopg [19] 4 (fun k i wr => LyRel B b R ts w (offE R) 4 k i wr)
      case atStart => exact ⟨0, by omega, rfl, rfl, HW.out, HB.out⟩
      case round =>
        obtain ⟨j, hj, rfl, rfl, hW, hB⟩ := hrel
        have HW := Lib.hid hW
        have HB := Lib.hid hB
        clear hW hB r0 r1 r2 r3
        by_cases hlt2 : j < 4
        · have hj0 : (0 : Int) ≤ (j : Int) := by omega
          have hj1 : (j : Int) < 4 := by omega
          have IX := index4 R j hlt2
          have hr := HRK.out j
          obtain ⟨r, hr'⟩ : ∃ r, R.r j = r := ⟨_, rfl⟩
          rw [hr'] at IX hr
          have HR' := Lib.hid hr'
          clear hr'
          go_wp2_with fail
          go_loopg [5] (r - 1) (fun k i wr => LxRel B b R ts w (offE R j) r k i wr)
          case atStart => exact ⟨1, by omega, by omega, rfl, rfl, by simpa using HW.out, HB.out⟩
          case round =>
            obtain ⟨i, hi1, hi2, rfl, rfl, hW, hB⟩ := hrel
            have HW := Lib.hid hW
            have HB := Lib.hid hB
            clear hW hB IX
            by_cases hlt3 : i < r
            · have hi3 : (i : Int) < (r : Int) := by omega
              go_wp2_with (go_at_call 44; ((with_reducible refine (SE.out j i hlt2 ⟨hi1, (by rw [HR'.out]; exact hlt3)⟩ _ HW.out).mono ?_); rintro e w2 ⟨rfl, hW2, hB2⟩; have HW2 := Lib.hid hW2; have HB2 := Lib.hid (HB.out.trans hB2); clear hW2 hB2))
              go_roundg (r - (i + 1))
              case measure => omega
              case rel => exact ⟨i + 1, by omega, by omega, rfl, by simp, by have := HW2.out; rw [show offE R j + (i + 1 - 1) = offE R j + (i - 1) + 1 by omega]; exact this, HB2.out⟩
            · obtain rfl : i = r := by omega
              have hi3 : ¬ (i : Int) < (i : Int) := by omega
              go_wp2_with fail
              go_roundg (4 - (j + 1))
              case measure => omega
              case rel => exact ⟨j + 1, by omega, rfl, by simp, by have := HW.out; rw [offE, HR'.out]; exact this, HB.out⟩
        · obtain rfl : j = 4 := by omega
          have c4 := wv_most HW.out
          obtain ⟨m, hm'⟩ : ∃ m, R.m = m := ⟨_, rfl⟩
          rw [hm'] at c4 hm
          have HM := Lib.hid hm'
          have e4 : (spotsN R).length = offE R 4 + (m - 1) * (m - 1) := by rw [← hm']; exact (spots_num R hR).2
          have E4 := Lib.hid e4
          clear hm' e4
          go_wp2_with fail
          go_loopg [6] (m - 1) (fun k i wr => ∃ j, 1 ≤ j ∧ j ≤ m ∧ k = m - j ∧ i = .int .i64 (j : Int) ∧ Wv wr B b R (offE R 4 + (j - 1) * (m - 1)) ts ∧ Below B w wr)
          case atStart => exact ⟨1, by omega, by omega, rfl, rfl, by simpa using HW.out, HB.out⟩
          case round =>
            obtain ⟨y, hy1, hy2, rfl, rfl, hW, hB⟩ := hrel
            have HW := Lib.hid hW
            have HB := Lib.hid hB
            have c4 := wv_most hW
            rw [HM.out] at c4
            clear hW hB
            by_cases hlt2 : y < m
            · have hy3 : (y : Int) < (m : Int) := by omega
              go_wp2_with fail
              go_loopg [7] (m - 1) (fun k i wr => LxRel B b R ts w (offE R 4 + (y - 1) * (m - 1)) m k i wr)
              case atStart => exact ⟨1, by omega, by omega, rfl, rfl, by simpa using HW.out, HB.out⟩
              case round =>
                obtain ⟨x, hx1, hx2, rfl, rfl, hW, hB⟩ := hrel
                have HW := Lib.hid hW
                have HB := Lib.hid hB
                have c4 := wv_most hW
                rw [HM.out] at c4
                clear hW hB
                by_cases hlt3 : x < m
                · have hx3 : (x : Int) < (m : Int) := by omega
                  have HI := Lib.hid (SI.out x y ⟨hx1, by rw [HM.out]; exact hlt3⟩ ⟨hy1, by rw [HM.out]; exact hlt2⟩ _ (by rw [HM.out]; exact HW.out))
                  go_wp2_with (go_at_call 44; ((with_reducible refine HI.out.mono ?_); rintro e w2 ⟨rfl, hW2, hB2⟩; have HW2 := Lib.hid hW2; have HB2 := Lib.hid (HB.out.trans hB2); clear hW2 hB2))
                  go_roundg (m - (x + 1))
                  case measure => omega
                  case rel => exact ⟨x + 1, by omega, by omega, rfl, by simp, by have := HW2.out; rw [HM.out] at this; rw [show offE R 4 + (y - 1) * (m - 1) + (x + 1 - 1) = offE R 4 + (y - 1) * (m - 1) + (x - 1) + 1 by omega]; exact this, HB2.out⟩
                · obtain rfl : x = m := by omega
                  have hx3 : ¬ (x : Int) < (x : Int) := by omega
                  go_wp2_with fail
                  go_roundg (x - (y + 1))
                  case measure => omega
                  case rel => exact ⟨y + 1, by omega, by omega, rfl, by simp, by have := HW.out; rw [show offE R 4 + (y + 1 - 1) * (x - 1) = offE R 4 + (y - 1) * (x - 1) + (x - 1) by rw [Nat.add_sub_cancel, Nat.add_assoc, ← Nat.succ_mul, Nat.succ_eq_add_one, Nat.sub_add_cancel hy1]]; exact this, HB.out⟩
            · obtain rfl : y = m := by omega
              have hy3 : ¬ (y : Int) < (y : Int) := by omega
              go_wp2_with fail
              go_end0
              exact ⟨rfl, by rw [E4.out]; exact HW.out, HB.out⟩
end Go.Proofs.Ytoalihdempcbjaa
