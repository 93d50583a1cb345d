/- The numbers that the document fixes for package view: the statements' first line answers true. -/
import Derived.Test.YtoalihdempcbjaaTiles
import Derived.Test.YtoalihdempcbjaaRay
namespace Go.Proofs.Ytoalihdempcbjaa
open Go.RowKit
set_option maxRecDepth 100000
set_option linter.unusedSimpArgs false
set_option linter.unusedVariables false
set_option maxHeartbeats 8000000 in
theorem alive21_any (w : World) : Calls Try.prog 12 #[] w fun e w' => e = .returned (.bool true) ∧ Below w.heap.size w w' := by
  have R : Hid (∀ w, Calls Try.prog 13 #[Cam 1 0 0 0 1 0 2 0 0 0 0 3 2 2 2 0, .int .i64 1, .int .i64 1, .int .i64 0, .int .i64 1] w fun e w' => e = .returned (.tuple #[V3 1 0 0, V3 4 1 9, .bool true]) ∧ Below w.heap.size w w') := by
    intro w
    have t := ray_yes 1 0 0 0 1 0 2 0 0 0 0 3 2 2 2 0 1 1 0 1 (by kernel_rfl) w
    rw [show rayd 0 2 0 2 1 1 0 1 = 4 by decide, show rayd 1 0 0 2 1 1 0 1 = 1 by decide, show rayd 0 0 3 2 1 1 0 1 = 9 by decide] at t
    exact t
  go_enter Try.func12, Try.ntmps12
  go_wp2_with (first
    | (go_at_call 16; ((with_reducible refine (tiles54 w.heap.size _ (lt_new rfl) (new_at rfl _ _ 0)).mono ?_); rintro e v1 ⟨g, cap, rfl, hcap, hg, hcell, hb1⟩; have HB1 := Lib.hid (bstep hb1 ((Below.refl _ _).alloc (Nat.le_refl _) _)); have sz1 : w.heap.size ≤ v1.heap.size := (by have h9 := hb1.size; rw [World.size_alloc] at h9; omega); have HC := Lib.hid hcell; clear hcell))
    | (go_at_call 13; ((with_reducible refine (R.out _).mono ?_); rintro e v2 ⟨rfl, hb2⟩; have c0 : v2.cell? ⟨g, 0, none⟩ = some (.int .i64 4) := (hb2.cell (p := ⟨g, 0, none⟩) hg).trans (HC.out 0 (by omega)); have c1 : v2.cell? ⟨g, 1, none⟩ = some (.int .i64 0) := (hb2.cell (p := ⟨g, 1, none⟩) hg).trans (HC.out 1 (by omega)); have c2 : v2.cell? ⟨g, 2, none⟩ = some (.int .i64 1) := (hb2.cell (p := ⟨g, 2, none⟩) hg).trans (HC.out 2 (by omega)); have c3 : v2.cell? ⟨g, 3, none⟩ = some (.int .i64 4) := (hb2.cell (p := ⟨g, 3, none⟩) hg).trans (HC.out 3 (by omega)); have sz2 : w.heap.size ≤ v2.heap.size := Nat.le_trans sz1 hb2.size; have hg2 : g < v2.heap.size := World.block_lt_of_cell? v2 ⟨g, 0, none⟩ c0)))
  have HB' := HB1.out
  go_returns
  exact ⟨by simp, by (repeat' (first | (with_reducible exact Below.refl _ _) | (with_reducible refine bstep (by with_reducible assumption) ?_) | (with_reducible refine Below.alloc ?_ ?_ _) | (with_reducible refine Below.drew ?_) | (with_reducible refine below_drewN ?_ _) | (with_reducible refine Below.setCell ?_ ?_ _) | go_size))⟩
end Go.Proofs.Ytoalihdempcbjaa
