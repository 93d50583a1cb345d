/- The square that the document fixes for package weave: the statements' first line answers true. -/
import Derived.Test.YtoalihdempcbjaaWvL
namespace Go.Proofs.Ytoalihdempcbjaa
open Go.RowKit
set_option maxRecDepth 100000
set_option linter.unusedSimpArgs false
set_option linter.unusedVariables false
theorem ok2 : (evR 2).ok := ⟨by decide, by decide, by decide, by decide⟩
theorem weave2 (w : World) : Calls Try.prog 22 #[.agg #[.int .i64 2, .int .i64 2, .int .i64 2, .int .i64 2]] w fun e w' => ∃ g c q d, e = .returned (.tuple #[.slice (some ⟨g, 0, none⟩) 9 c, .slice q 8 d, .bool true]) ∧ w'.cell? ⟨g, 24, none⟩ = some (.int .i64 3) ∧ w'.cell? ⟨g, 25, none⟩ = some (.int .i64 1) ∧ w'.cell? ⟨g, 26, none⟩ = some (.int .i64 1) ∧ g < w'.heap.size ∧ Below w.heap.size w w' := by
  refine (weave_yes (evR 2) ok2 w).mono fun e w' ⟨p, c, q, d, he, hs, ht, hb⟩ => ?_
  have l1 : (spotsN (evR 2)).length = 9 := by decide
  have l2 : (trisN (evR 2)).length = 8 := by decide
  obtain ⟨g, hp, hg, hl, hc⟩ := row3_cell hs (by rw [l1]; decide)
  have h8 := hc 8 (by rw [l1]; decide)
  rw [l1, l2, hp] at he
  have e8 : (spotsN (evR 2))[8]'(by rw [l1]; decide) = (3, 1, 1) := by
    have h := spots_at (evR 2) ok2 (3, 1, 1) (by unfold vs; decide)
    exact (List.getElem?_eq_some_iff.1 h).2
  rw [e8] at h8
  exact ⟨g, c, q, d, he, h8.1, h8.2.1, h8.2.2, hg, hb⟩
theorem weave17 (w : World) : Calls Try.prog 22 #[.agg #[.int .i64 2, .int .i64 2, .int .i64 2, .int .i64 17]] w fun e w' => e = .returned (.tuple #[.slice none 0 0, .slice none 0 0, .bool false]) ∧ Below w.heap.size w w' :=
  weave_no 2 2 2 17 (by unfold ok4; omega) w
set_option maxHeartbeats 2000000 in
theorem alive13_any (w : World) : Calls Try.prog 21 #[] w fun e w' => e = .returned (.bool true) ∧ Below w.heap.size w w' := by
  go_enter Try.func21, Try.ntmps21
  go_wp2_with (first
    | (go_at_call 22; ((with_reducible refine (weave2 _).mono ?_); rintro e w1 ⟨g, c, q, d, rfl, k0, k1, k2, hg, hb1⟩; have HB1 := Lib.hid hb1))
    | (go_at_call 22; ((with_reducible refine (weave17 _).mono ?_); rintro e w2 ⟨rfl, hb2⟩; have m0 := (hb2.cell (p := ⟨g, 24, none⟩) hg).trans k0; have m1 := (hb2.cell (p := ⟨g, 25, none⟩) hg).trans k1; have m2 := (hb2.cell (p := ⟨g, 26, none⟩) hg).trans k2)))
  have HB' := HB1.out
  go_returns
  exact ⟨by simp, by (repeat' (first | (with_reducible exact Below.refl _ _) | (with_reducible refine bstep (by with_reducible assumption) ?_) | (with_reducible refine Below.alloc ?_ ?_ _) | (with_reducible refine Below.drew ?_) | (with_reducible refine below_drewN ?_ _) | (with_reducible refine Below.setCell ?_ ?_ _) | go_size))⟩
end Go.Proofs.Ytoalihdempcbjaa
