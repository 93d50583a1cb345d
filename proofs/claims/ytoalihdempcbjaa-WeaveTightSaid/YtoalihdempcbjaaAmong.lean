/- What view.among answers for one number and for two: are they within the bounds? -/
import Derived.Test.YtoalihdempcbjaaMinMax
import Derived.Test.YtoalihdempcbjaaSlices
import Derived.Test.YtoalihdempcbjaaBlk
namespace Go.Proofs.Ytoalihdempcbjaa
open Go.RowKit
set_option maxRecDepth 100000
set_option linter.unusedSimpArgs false
set_option linter.unusedVariables false
theorem among_is (lo hi l g : Int) (n bl : Nat) (r : Bool) (hr : (decide (lo ≤ l) && decide (g ≤ hi)) = r) (w : World)
    (MI : Calls Try.prog 33 #[.slice (some ⟨bl, 0, none⟩) n n] w fun e w' => e = .returned (.int .i64 l) ∧ w' = w)
    (MA : Calls Try.prog 34 #[.slice (some ⟨bl, 0, none⟩) n n] w fun e w' => e = .returned (.int .i64 g) ∧ w' = w) :
    Calls Try.prog 26 #[.int .i64 lo, .int .i64 hi, .slice (some ⟨bl, 0, none⟩) n n] w fun e w' => e = .returned (.bool r) ∧ Below w.heap.size w w' := by
  have MI := Lib.hid MI
  have MA := Lib.hid MA
  obtain ⟨b0, h0⟩ : ∃ t, decide (lo ≤ l) = t := ⟨_, rfl⟩
  obtain ⟨b1, h1⟩ : ∃ t, decide (g ≤ hi) = t := ⟨_, rfl⟩
  rw [h0, h1] at hr
  subst hr
  cases b0
  · go_enter Try.func26, Try.ntmps26
    go_wp2_with (go_at_call 33; ((with_reducible refine MI.out.mono ?_); rintro e w1 ⟨rfl, rfl⟩))
    go_returns
    exact ⟨by simp, by (repeat' (first | (with_reducible exact Below.refl _ _) | (with_reducible refine bstep (by with_reducible assumption) ?_) | (with_reducible refine Below.alloc ?_ ?_ _) | (with_reducible refine Below.drew ?_) | (with_reducible refine below_drewN ?_ _) | (with_reducible refine Below.setCell ?_ ?_ _) | go_size))⟩
  cases b1
  · go_enter Try.func26, Try.ntmps26
    go_wp2_with (first
      | (go_at_call 33; ((with_reducible refine MI.out.mono ?_); rintro e w1 ⟨rfl, rfl⟩))
      | (go_at_call 34; ((with_reducible refine MA.out.mono ?_); rintro e w2 ⟨rfl, rfl⟩)))
    go_returns
    exact ⟨by simp, by (repeat' (first | (with_reducible exact Below.refl _ _) | (with_reducible refine bstep (by with_reducible assumption) ?_) | (with_reducible refine Below.alloc ?_ ?_ _) | (with_reducible refine Below.drew ?_) | (with_reducible refine below_drewN ?_ _) | (with_reducible refine Below.setCell ?_ ?_ _) | go_size))⟩
  · go_enter Try.func26, Try.ntmps26
    go_wp2_with (first
      | (go_at_call 33; ((with_reducible refine MI.out.mono ?_); rintro e w1 ⟨rfl, rfl⟩))
      | (go_at_call 34; ((with_reducible refine MA.out.mono ?_); rintro e w2 ⟨rfl, rfl⟩)))
    go_returns
    exact ⟨by simp, by (repeat' (first | (with_reducible exact Below.refl _ _) | (with_reducible refine bstep (by with_reducible assumption) ?_) | (with_reducible refine Below.alloc ?_ ?_ _) | (with_reducible refine Below.drew ?_) | (with_reducible refine below_drewN ?_ _) | (with_reducible refine Below.setCell ?_ ?_ _) | go_size))⟩
def am1 (lo hi a : Int) : Bool := decide (lo ≤ a) && decide (a ≤ hi)
def am2 (lo hi a b : Int) : Bool := decide (lo ≤ min a b) && decide (max a b ≤ hi)
theorem am1_iff {lo hi a : Int} : am1 lo hi a = true ↔ lo ≤ a ∧ a ≤ hi := by simp [am1]
theorem am2_iff {lo hi a b : Int} : am2 lo hi a b = true ↔ (lo ≤ a ∧ a ≤ hi) ∧ (lo ≤ b ∧ b ≤ hi) := by
  simp only [am2, Bool.and_eq_true, decide_eq_true_eq]; omega
theorem among1 (lo hi a : Int) (r : Bool) (hr : am1 lo hi a = r) (bl : Nat) (w : World) (hc : ∀ o, w.cell? ⟨bl, o, none⟩ = (#[.int .i64 a] : Array Value)[o]?) :
    Calls Try.prog 26 #[.int .i64 lo, .int .i64 hi, .slice (some ⟨bl, 0, none⟩) 1 1] w fun e w' => e = .returned (.bool r) ∧ Below w.heap.size w w' := by
  have hc' : ∀ j, j < ([a] : List Int).length → w.cell? ⟨bl, 0 + j, none⟩ = some (.int .i64 (([a] : List Int).getD j 0)) := fun j hj => by
    match j, hj with
    | 0, _ => exact hc 0
  have mi := min_any bl 0 1 1 [a] w (by omega) (by simp) (by omega) hc'
  have ma := max_any bl 0 1 1 [a] w (by omega) (by simp) (by omega) hc'
  rw [show Lib.minOf (([a] : List Int).take 1) = a by simp [Lib.minOf]] at mi
  rw [show Lib.maxOf (([a] : List Int).take 1) = a by simp [Lib.maxOf]] at ma
  exact among_is lo hi a a 1 bl r hr w mi ma
theorem among2 (lo hi a b : Int) (r : Bool) (hr : am2 lo hi a b = r) (bl : Nat) (w : World) (hc : ∀ o, w.cell? ⟨bl, o, none⟩ = (#[.int .i64 a, .int .i64 b] : Array Value)[o]?) :
    Calls Try.prog 26 #[.int .i64 lo, .int .i64 hi, .slice (some ⟨bl, 0, none⟩) 2 2] w fun e w' => e = .returned (.bool r) ∧ Below w.heap.size w w' := by
  have hc' : ∀ j, j < ([a, b] : List Int).length → w.cell? ⟨bl, 0 + j, none⟩ = some (.int .i64 (([a, b] : List Int).getD j 0)) := fun j hj => by
    match j, hj with
    | 0, _ => exact hc 0
    | 1, _ => exact hc 1
  have mi := min_any bl 0 2 2 [a, b] w (by omega) (by simp) (by omega) hc'
  have ma := max_any bl 0 2 2 [a, b] w (by omega) (by simp) (by omega) hc'
  rw [show Lib.minOf (([a, b] : List Int).take 2) = min a b by simp [Lib.minOf]] at mi
  rw [show Lib.maxOf (([a, b] : List Int).take 2) = max a b by simp [Lib.maxOf]] at ma
  exact among_is lo hi (min a b) (max a b) 2 bl r hr w mi ma
end Go.Proofs.Ytoalihdempcbjaa
