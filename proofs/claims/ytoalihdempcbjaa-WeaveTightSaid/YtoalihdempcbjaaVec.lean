/- What each function of package vec, and of the reference beside it, answers: contracts of the calls, for all points of 64 bits (Round: for a d from 1 to 2^61 and an n within 2^61). -/
import Derived.Test.YtoalihdempcbjaaOwn
namespace Go.Proofs.Ytoalihdempcbjaa
open Go.RowKit
set_option maxRecDepth 100000
theorem within_any (x y z m : Int) (w : World) :
    Calls Try.prog 27 #[V3 x y z, .int .i64 m] w fun e w' => e = .returned (.bool (inB x y z m)) ∧ Below w.heap.size w w' := by
  unfold inB
  by_cases h : wrap64 (-m) ≤ mn (mn x y) z
  · have h' : decide (wrap64 (-m) ≤ mn (mn x y) z) = true := decide_eq_true h
    clear h
    go_enter Try.func27, Try.ntmps27
    go_wp2
    go_ret
    exact ⟨by simp [*], by go_grown⟩
  · have h' : decide (wrap64 (-m) ≤ mn (mn x y) z) = false := decide_eq_false h
    clear h
    go_enter Try.func27, Try.ntmps27
    go_wp2
    go_ret
    exact ⟨by simp [*], by go_grown⟩
theorem add_any (x y z x' y' z' : Int) (w : World) : Calls Try.prog 28 #[V3 x y z, V3 x' y' z'] w fun e w' => e = .returned (V3 (wrap64 (x + x')) (wrap64 (y + y')) (wrap64 (z + z'))) ∧ Below w.heap.size w w' := by
  go_enter Try.func28, Try.ntmps28
  go_wp2
  go_returns
  exact ⟨rfl, by go_grown⟩
theorem scale_any (x y z k : Int) (w : World) : Calls Try.prog 29 #[V3 x y z, .int .i64 k] w fun e w' => e = .returned (V3 (wrap64 (x * k)) (wrap64 (y * k)) (wrap64 (z * k))) ∧ Below w.heap.size w w' := by
  go_enter Try.func29, Try.ntmps29
  go_wp2
  go_returns
  exact ⟨rfl, by go_grown⟩
theorem radd_any (x y z x' y' z' : Int) (w : World) : Calls Try.prog 19 #[V3 x y z, V3 x' y' z'] w fun e w' => e = .returned (V3 (wrap64 (x + x')) (wrap64 (y + y')) (wrap64 (z + z'))) ∧ Below w.heap.size w w' := by
  go_enter Try.func19, Try.ntmps19
  go_wp2
  go_returns
  exact ⟨rfl, by go_grown⟩
theorem rscale_any (x y z k : Int) (w : World) : Calls Try.prog 20 #[V3 x y z, .int .i64 k] w fun e w' => e = .returned (V3 (wrap64 (x * k)) (wrap64 (y * k)) (wrap64 (z * k))) ∧ Below w.heap.size w w' := by
  go_enter Try.func20, Try.ntmps20
  go_wp2
  go_returns
  exact ⟨rfl, by go_grown⟩
end Go.Proofs.Ytoalihdempcbjaa
