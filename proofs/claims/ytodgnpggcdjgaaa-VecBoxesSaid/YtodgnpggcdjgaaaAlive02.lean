/- The numbers that the document fixes for package vec: the statements' first line answers true. -/
import Derived.Test.YtodgnpggcdjgaaaCut
namespace Go.Proofs.Ytodgnpggcdjgaaa
open Go.RowKit
set_option maxRecDepth 100000
theorem cut_const {x y z : Int} (h : CutIs 2 5 (-3) 1 x y z) : x = 2 ∧ y = -1 ∧ z = 0 := by
  obtain ⟨n, rfl, rfl, rfl, h1, h2⟩ := h
  match n with
  | 0 => simp [inB, hv, mx, mn, wrap64] at h1
  | 1 => simp [hv]
  | n + 2 => have := h2 1 (by omega); simp [inB, hv, mx, mn, wrap64] at this
theorem alive02_any (w : World) : Calls Try.prog 20 #[] w fun e w' => e = .returned (.bool true) ∧ Below w.heap.size w w' := by
  have r1 : rnd (-1) 2 = 0 := by decide
  have r2 : rnd 1 2 = 1 := by decide
  go_enter Try.func20, Try.ntmps20
  go_wp2_with (first
    | (go_at_call 21; refine (round_any _ _ _ (by omega) (by omega) (by omega) (by omega)).mono ?_; rintro e w' ⟨rfl, hb⟩)
    | (go_at_call 22; refine (cut_any _ _ _ _ _ (by omega) (by omega) (by omega) (by omega) (by omega)).mono ?_; rintro e w' ⟨x, y, z, rfl, hx, hb⟩; obtain ⟨rfl, rfl, rfl⟩ := cut_const hx; clear hx)
    | (go_at_call 25; refine (dot_any _ _ _ _ _ _ _).mono ?_; rintro e w' ⟨rfl, hb⟩))
  go_returns
  exact ⟨by simp [wrap64], by (repeat' (first | (with_reducible exact Below.refl _ _) | (with_reducible refine bstep (by with_reducible assumption) ?_) | (with_reducible refine Below.alloc ?_ ?_ _) | (with_reducible refine Below.drew ?_) | (with_reducible refine below_drewN ?_ _) | (with_reducible refine Below.setCell ?_ ?_ _) | go_size))⟩
end Go.Proofs.Ytodgnpggcdjgaaa
