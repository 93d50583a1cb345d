/- What relievoref02.Join, Has, Bound and relievoref00.SameVs answer: contracts. -/
import Derived.Test.YtodgnpggcdjgaaaRBox
namespace Go.Proofs.Ytodgnpggcdjgaaa
open Go.RowKit
set_option maxRecDepth 100000
set_option linter.unusedSimpArgs false
set_option linter.unusedVariables false
def SvRel (n S : Nat) (w : World) (k : Nat) (i : Value) (wr : World) : Prop := ∃ j, j ≤ n ∧ k = n - j ∧ i = .int .i64 (j : Int) ∧ Below S w wr
set_option maxHeartbeats 4000000 in
theorem same_vs (n : Nat) (u v : Value) (X : Nat → Int) (w : World) (hu : Pts w u n X) (hv : Pts w v n X) :
    Calls Try.prog 35 #[u, v] w fun e w' => e = .returned (.bool true) ∧ Below w.heap.size w w' := by
  rcases hu with ⟨rfl, p, c, rfl⟩ | ⟨b, off, c, rfl, h0, h2, h3, h4, h5⟩
  · rcases hv with ⟨_, p', c', rfl⟩ | ⟨b, off, c', rfl, h0, _⟩
    · go_enter Try.func35, Try.ntmps35
      go_wp2_with fail
      go_loopg [5] 0 (fun k i wr => SvRel 0 w.heap.size w k i wr)
      case atStart => exact ⟨0, by omega, rfl, rfl, by (repeat' (first | (with_reducible exact Below.refl _ _) | (with_reducible refine bstep (by with_reducible assumption) ?_) | (with_reducible refine Below.alloc ?_ ?_ _) | (with_reducible refine Below.drew ?_) | (with_reducible refine below_drewN ?_ _) | (with_reducible refine Below.setCell ?_ ?_ _) | go_size))⟩
      case round =>
        obtain ⟨j, hj, rfl, rfl, hb⟩ := hrel
        obtain rfl : j = 0 := by omega
        have HB := Lib.hid hb
        clear hb
        go_wp2_with fail
        have HB' := HB.out
        go_returns
        exact ⟨by simp, by (repeat' (first | (with_reducible exact Below.refl _ _) | (with_reducible refine bstep (by with_reducible assumption) ?_) | (with_reducible refine Below.alloc ?_ ?_ _) | (with_reducible refine Below.drew ?_) | (with_reducible refine below_drewN ?_ _) | (with_reducible refine Below.setCell ?_ ?_ _) | go_size))⟩
    · omega
  · rcases hv with ⟨h, _⟩ | ⟨b', off', c', rfl, _, g2, g3, g4, g5⟩
    · omega
    have H5 := Lib.hid h5
    have G5 := Lib.hid g5
    clear h5 g5
    go_enter Try.func35, Try.ntmps35
    go_wp2_with fail
    go_loopg [5] n (fun k i wr => SvRel n w.heap.size w k i wr)
    case atStart => exact ⟨0, by omega, rfl, rfl, by (repeat' (first | (with_reducible exact Below.refl _ _) | (with_reducible refine bstep (by with_reducible assumption) ?_) | (with_reducible refine Below.alloc ?_ ?_ _) | (with_reducible refine Below.drew ?_) | (with_reducible refine below_drewN ?_ _) | (with_reducible refine Below.setCell ?_ ?_ _) | go_size))⟩
    case round =>
      obtain ⟨j, hj, rfl, rfl, hb⟩ := hrel
      have HB := Lib.hid hb
      by_cases hlt' : j < n
      · have x0 := (hb.cell (p := ⟨b, off + (j * 3 + 0), none⟩) h4).trans (H5.out (j * 3 + 0) (by omega))
        have x1 := (hb.cell (p := ⟨b, off + (j * 3 + 1), none⟩) h4).trans (H5.out (j * 3 + 1) (by omega))
        have x2 := (hb.cell (p := ⟨b, off + (j * 3 + 2), none⟩) h4).trans (H5.out (j * 3 + 2) (by omega))
        have y0 := (hb.cell (p := ⟨b', off' + (j * 3 + 0), none⟩) g4).trans (G5.out (j * 3 + 0) (by omega))
        have y1 := (hb.cell (p := ⟨b', off' + (j * 3 + 1), none⟩) g4).trans (G5.out (j * 3 + 1) (by omega))
        have y2 := (hb.cell (p := ⟨b', off' + (j * 3 + 2), none⟩) g4).trans (G5.out (j * 3 + 2) (by omega))
        rw [show off + (j * 3 + 0) = off + j * 3 by omega] at x0
        rw [show off + (j * 3 + 1) = off + j * 3 + 1 by omega] at x1
        rw [show off + (j * 3 + 2) = off + j * 3 + 2 by omega] at x2
        rw [show off' + (j * 3 + 0) = off' + j * 3 by omega] at y0
        rw [show off' + (j * 3 + 1) = off' + j * 3 + 1 by omega] at y1
        rw [show off' + (j * 3 + 2) = off' + j * 3 + 2 by omega] at y2
        have hj0 : (0 : Int) ≤ (j : Int) := by omega
        have hj1 : (j : Int) < (n : Int) := by omega
        clear hb
        go_wp2_with fail
        go_quiet (fail)
        go_wp2_with fail
        have HB' := HB.out
        go_roundg (n - (j + 1))
        case measure => omega
        case rel => exact ⟨j + 1, by omega, rfl, by first | (simp; done) | (simp; exact w64 (by omega) (by have := h3; unfold maxLen at this; omega)), by (repeat' (first | (with_reducible exact Below.refl _ _) | (with_reducible refine bstep (by with_reducible assumption) ?_) | (with_reducible refine Below.alloc ?_ ?_ _) | (with_reducible refine Below.drew ?_) | (with_reducible refine below_drewN ?_ _) | (with_reducible refine Below.setCell ?_ ?_ _) | go_size))⟩
      · obtain rfl : j = n := by omega
        have hj1 : ¬ ((j : Int) < (j : Int)) := by omega
        clear hb
        go_wp2_with fail
        have HB' := HB.out
        go_returns
        exact ⟨by simp, by (repeat' (first | (with_reducible exact Below.refl _ _) | (with_reducible refine bstep (by with_reducible assumption) ?_) | (with_reducible refine Below.alloc ?_ ?_ _) | (with_reducible refine Below.drew ?_) | (with_reducible refine below_drewN ?_ _) | (with_reducible refine Below.setCell ?_ ?_ _) | go_size))⟩
end Go.Proofs.Ytodgnpggcdjgaaa
