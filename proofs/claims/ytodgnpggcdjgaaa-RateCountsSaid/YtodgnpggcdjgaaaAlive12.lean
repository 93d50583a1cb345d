/- The statements' first line of layer 12 answers true. -/
import Derived.Test.YtodgnpggcdjgaaaRateB
namespace Go.Proofs.Ytodgnpggcdjgaaa
open Go.RowKit
set_option maxRecDepth 100000
set_option linter.unusedSimpArgs false
set_option linter.unusedVariables false
theorem alive12_any (w : World) : Calls Try.prog 14 #[] w fun e w' => e = .returned (.bool true) ∧ Below w.heap.size w w' := by
  have a1 : allIn 0 0 0 3 0 0 3 (-3) 0 3 (-3) 3 = true := by simp [allIn, inB, mx, mn, wrap64]
  have a2 : lenF 0 0 0 3 0 0 3 (-3) 0 3 (-3) 3 = 9 := by simp [lenF, wayF, mx]
  have e1 : edgeF true 9 4 = 3 := by decide
  have e2 : edgeF true 9 0 = 0 := by decide
  have K := len_any 0 0 0 3 0 0 3 (-3) 0 3 (-3) 3
  have E1 := edge_any 0 0 0 3 0 0 3 (-3) 0 3 (-3) 3 4
  have E2 := edge_any 0 0 0 3 0 0 3 (-3) 0 3 (-3) 3 0
  rw [a1, a2] at K E1 E2
  rw [e1] at E1
  rw [e2] at E2
  rw [if_pos rfl] at K
  have K := Lib.hid K
  have E1 := Lib.hid E1
  have E2 := Lib.hid E2
  clear a1 a2 e1 e2
  go_enter Try.func14, Try.ntmps14
  go_wp2_with (first
    | (go_at_call 16; ((with_reducible refine (K.out _).mono ?_); rintro e w1 ⟨rfl, hb1⟩; obtain ⟨hc1, hf1⟩ := bcell hb1))
    | (go_at_call 15; ((with_reducible refine (E1.out _).mono ?_); rintro e w2 ⟨rfl, hb2⟩; obtain ⟨hc2, hf2⟩ := bcell hb2; have hz : w.heap.size < w1.heap.size := (by have := hb1.size; rw [World.size_alloc] at this; omega)))
    | (go_at_call 15; ((with_reducible refine (E2.out _).mono ?_); rintro e w3 ⟨rfl, hb3⟩)))
  go_returns
  exact ⟨by simp, by (repeat' (first | (with_reducible exact Below.refl _ _) | (with_reducible refine bstep (by with_reducible assumption) ?_) | (with_reducible refine Below.alloc ?_ ?_ _) | (with_reducible refine Below.drew ?_) | (with_reducible refine below_drewN ?_ _) | (with_reducible refine Below.setCell ?_ ?_ _) | go_size))⟩
end Go.Proofs.Ytodgnpggcdjgaaa
