/- What vec.Cut answers, for all points and a bound from 1 on: the point halved toward nought, all parts alike, as often as it is not within the bound. -/
import Derived.Test.YtodgnpggcdjgaaaVec
import Derived.Deep.LoopGhost
import Derived.Lib.Hide
namespace Go.Proofs.Ytodgnpggcdjgaaa
open Go.RowKit
set_option maxRecDepth 100000
/-- Halved toward nought, so many times. -/
def hv : Nat → Int → Int
  | 0, x => x
  | n + 1, x => (hv n x).tdiv 2
/-- How far a point is from nought. -/
def far (x y z : Int) : Nat := x.natAbs + y.natAbs + z.natAbs
theorem far_half {x y z m : Int} (h0 : 1 ≤ m) (h1 : m ≤ 9223372036854775807) (h : inB x y z m = false) : far (x.tdiv 2) (y.tdiv 2) (z.tdiv 2) < far x y z := by
  rw [inB_false (by omega) h1] at h
  unfold far
  have e : ∀ x : Int, (x.tdiv 2).natAbs = x.natAbs / 2 := fun x => Int.natAbs_tdiv x 2
  rw [e, e, e]
  omega
theorem tdiv2 {x : Int} (h0 : -9223372036854775808 ≤ x) (h1 : x ≤ 9223372036854775807) : -9223372036854775808 ≤ x.tdiv 2 ∧ x.tdiv 2 ≤ 9223372036854775807 := by
  have e : (x.tdiv 2).natAbs = x.natAbs / 2 := Int.natAbs_tdiv x 2
  omega
def CutIs (m x0 y0 z0 x y z : Int) : Prop := ∃ n, x = hv n x0 ∧ y = hv n y0 ∧ z = hv n z0 ∧ inB x y z m = true ∧ ∀ j, j < n → inB (hv j x0) (hv j y0) (hv j z0) m = false
def CutPost (m x0 y0 z0 : Int) (w : World) (e : Ending) (w' : World) : Prop := ∃ x y z, e = .returned (V3 x y z) ∧ CutIs m x0 y0 z0 x y z ∧ Below w.heap.size w w'
def CutRel (m x0 y0 z0 : Int) (B : Nat) (w : World) (k : Nat) (wr : World) : Prop := ∃ n x y z, Hid (x = hv n x0 ∧ y = hv n y0 ∧ z = hv n z0 ∧ far x y z = k ∧ ∀ j, j < n → inB (hv j x0) (hv j y0) (hv j z0) m = false) ∧
  (-9223372036854775808 ≤ x ∧ x ≤ 9223372036854775807) ∧ (-9223372036854775808 ≤ y ∧ y ≤ 9223372036854775807) ∧ (-9223372036854775808 ≤ z ∧ z ≤ 9223372036854775807) ∧
  wr.cell? ⟨B, 0, none⟩ = some (.int .i64 x) ∧ wr.cell? ⟨B, 1, none⟩ = some (.int .i64 y) ∧ wr.cell? ⟨B, 2, none⟩ = some (.int .i64 z) ∧ wr.frozen? ⟨B, 0, none⟩ = false ∧ wr.frozen? ⟨B, 1, none⟩ = false ∧ wr.frozen? ⟨B, 2, none⟩ = false ∧
  wr.cell? ⟨B + 1, 0, none⟩ = some (.int .i64 0) ∧ wr.cell? ⟨B + 1, 1, none⟩ = some (.int .i64 0) ∧ wr.cell? ⟨B + 1, 2, none⟩ = some (.int .i64 0) ∧ wr.frozen? ⟨B + 1, 0, none⟩ = false ∧ wr.frozen? ⟨B + 1, 1, none⟩ = false ∧ wr.frozen? ⟨B + 1, 2, none⟩ = false ∧
  B + 2 ≤ wr.heap.size ∧ Below B w wr
theorem cut_any (x0 y0 z0 m : Int) (w : World) (h0 : 1 ≤ m) (h1 : m ≤ 9223372036854775807) (bx : -9223372036854775808 ≤ x0 ∧ x0 ≤ 9223372036854775807) (by_ : -9223372036854775808 ≤ y0 ∧ y0 ≤ 9223372036854775807) (bz : -9223372036854775808 ≤ z0 ∧ z0 ≤ 9223372036854775807) :
    Calls Try.prog 22 #[V3 x0 y0 z0, .int .i64 m] w (CutPost m x0 y0 z0 w) := by
  have c0 : decide (m < 1) = false := decide_eq_false (by omega)
  go_enter Try.func22, Try.ntmps22
  go_wp2
  go_loopg [] (far x0 y0 z0) (fun k wr => CutRel m x0 y0 z0 w.heap.size w k wr)
  case atStart =>
    exact ⟨0, x0, y0, z0, ⟨rfl, rfl, rfl, rfl, fun j hj => absurd hj (Nat.not_lt_zero j)⟩, bx, by_, bz, by simp, by simp, by simp, by simp, by simp, by simp, by simp, by simp, by simp, by simp, by simp, by simp, by simp, by go_grown⟩
  case round =>
    clear bx by_ bz
    obtain ⟨n, x, y, z, H, ⟨bx0, bx1⟩, ⟨by0, by1⟩, ⟨bz0, bz1⟩, e0, e1, e2, f0, f1, f2, e3, e4, e5, f3, f4, f5, hz, hb0⟩ := hrel
    have hl0 : w.heap.size < wr.heap.size := by omega
    have hl1 : w.heap.size + 1 < wr.heap.size := by omega
    have HB := Lib.hid hb0
    clear hb0
    by_cases h : inB x y z m = true
    · go_wp2_with (go_at_call 17; refine (within_any _ _ _ _ _).mono ?_; rintro e w' ⟨rfl, hb⟩; obtain ⟨hc, hf⟩ := bcell hb)
      refine bodyPost_ret (v := V3 x y z) (by simp [results, Try.results22, go_sem, *]) rfl ?_
      obtain ⟨q1, q2, q3, q4, q5⟩ := H.out
      refine ⟨x, y, z, rfl, ⟨n, q1, q2, q3, h, q5⟩, ?_⟩
      exact ((((HB.out).trans (hb.mono (by omega))).setCell (by simp) _).setCell (by simp) _).setCell (by simp) _
    · have h : inB x y z m = false := by simpa using h
      go_wp2_with (go_at_call 17; refine (within_any _ _ _ _ _).mono ?_; rintro e w' ⟨rfl, hb⟩; obtain ⟨hc, hf⟩ := bcell hb)
      go_roundg (far (x.tdiv 2) (y.tdiv 2) (z.tdiv 2))
      case measure =>
        obtain ⟨q1, q2, q3, q4, q5⟩ := H.out
        rw [← q4]; exact far_half h0 h1 h
      case rel =>
        obtain ⟨q1, q2, q3, q4, q5⟩ := H.out
        refine ⟨n + 1, x.tdiv 2, y.tdiv 2, z.tdiv 2, ⟨by rw [q1]; rfl, by rw [q2]; rfl, by rw [q3]; rfl, rfl, ?_⟩, tdiv2 bx0 bx1, tdiv2 by0 by1, tdiv2 bz0 bz1, ?_⟩
        · intro j hj
          rcases Nat.lt_or_eq_of_le (Nat.le_of_lt_succ hj) with hj | rfl
          · exact q5 j hj
          · rw [← q1, ← q2, ← q3]; exact h
        · clear H q1 q2 q3 q4 q5
          refine ⟨by go_cell, by go_cell, by go_cell, by simp [*], by simp [*], by simp [*], by go_cell, by go_cell, by go_cell, by simp [*], by simp [*], by simp [*], ?_, ?_⟩
          · have := hb.size; simp; omega
          · exact ((((HB.out).trans (hb.mono (by omega))).setCell (by simp) _).setCell (by simp) _).setCell (by simp) _
end Go.Proofs.Ytodgnpggcdjgaaa
