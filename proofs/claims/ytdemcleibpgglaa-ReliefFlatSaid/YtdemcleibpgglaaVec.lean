/- What each function of package vec, and of the reference beside it, answers: contracts of the calls, for all points of 64 bits (Round: for a d from 1 to 2^61 and an n within 2^61). -/
import Derived.Test.YtdemcleibpgglaaOwn
namespace Go.Proofs.Ytdemcleibpgglaa
open Go.RowKit
set_option maxRecDepth 100000
theorem within_any (x y z m : Int) (w : World) :
    Calls Try.prog 18 #[V3 x y z, .int .i64 m] w fun e w' => e = .returned (.bool (inB x y z m)) ∧ Below w.heap.size w w' := by
  unfold inB
  by_cases h : wrap64 (-m) ≤ mn (mn x y) z
  · have h' : decide (wrap64 (-m) ≤ mn (mn x y) z) = true := decide_eq_true h
    clear h
    go_enter Try.func18, Try.ntmps18
    go_wp2
    go_ret
    exact ⟨by simp [*], by go_grown⟩
  · have h' : decide (wrap64 (-m) ≤ mn (mn x y) z) = false := decide_eq_false h
    clear h
    go_enter Try.func18, Try.ntmps18
    go_wp2
    go_ret
    exact ⟨by simp [*], by go_grown⟩
theorem add_any (x y z x' y' z' : Int) (w : World) : Calls Try.prog 44 #[V3 x y z, V3 x' y' z'] w fun e w' => e = .returned (V3 (wrap64 (x + x')) (wrap64 (y + y')) (wrap64 (z + z'))) ∧ Below w.heap.size w w' := by
  go_enter Try.func44, Try.ntmps44
  go_wp2
  go_returns
  exact ⟨rfl, by go_grown⟩
theorem scale_any (x y z k : Int) (w : World) : Calls Try.prog 46 #[V3 x y z, .int .i64 k] w fun e w' => e = .returned (V3 (wrap64 (x * k)) (wrap64 (y * k)) (wrap64 (z * k))) ∧ Below w.heap.size w w' := by
  go_enter Try.func46, Try.ntmps46
  go_wp2
  go_returns
  exact ⟨rfl, by go_grown⟩
theorem radd_any (x y z x' y' z' : Int) (w : World) : Calls Try.prog 19 #[V3 x y z, V3 x' y' z'] w fun e w' => e = .returned (V3 (wrap64 (x + x')) (wrap64 (y + y')) (wrap64 (z + z'))) ∧ Below w.heap.size w w' := by
  go_enter Try.func19, Try.ntmps19
  go_wp2
  go_returns
  exact ⟨rfl, by go_grown⟩
theorem rsub_any (x y z x' y' z' : Int) (w : World) : Calls Try.prog 22 #[V3 x y z, V3 x' y' z'] w fun e w' => e = .returned (V3 (wrap64 (x - x')) (wrap64 (y - y')) (wrap64 (z - z'))) ∧ Below w.heap.size w w' := by
  go_enter Try.func22, Try.ntmps22
  go_wp2
  go_returns
  exact ⟨rfl, by go_grown⟩
theorem rscale_any (x y z k : Int) (w : World) : Calls Try.prog 24 #[V3 x y z, .int .i64 k] w fun e w' => e = .returned (V3 (wrap64 (x * k)) (wrap64 (y * k)) (wrap64 (z * k))) ∧ Below w.heap.size w w' := by
  go_enter Try.func24, Try.ntmps24
  go_wp2
  go_returns
  exact ⟨rfl, by go_grown⟩
theorem round_any (n d : Int) (w : World) (h1 : 1 ≤ d) (h2 : d ≤ 2305843009213693952) (h3 : -2305843009213693952 ≤ n) (h4 : n ≤ 2305843009213693952) :
    Calls Try.prog 43 #[.int .i64 n, .int .i64 d] w fun e w' => e = .returned (.int .i64 (rnd n d)) ∧ Below w.heap.size w w' := by
  rw [rnd_go n d (by omega)]
  have ⟨q1, q2⟩ := tdiv_small n d 2305843009213693952 (by omega) h3 h4
  have m1 : n.tmod d < d := Int.tmod_lt_of_pos n (by omega)
  have m2 : -d < n.tmod d := by have := Int.lt_tmod_of_pos n (show 0 < d by omega); omega
  have c1 : decide (d < 1) = false := decide_eq_false (by omega)
  have c2 : decide (2305843009213693952 < mx (mx d n) (-n)) = false := decide_eq_false (by unfold mx; omega)
  have c3 : decide (n < -2305843009213693952) = false := decide_eq_false (by omega)
  have c4 : (d == 0) = false := beq_eq_false_iff_ne.mpr (by omega)
  by_cases a : n.tmod d < 0
  · rw [if_pos a]
    have a' : decide (n.tmod d < 0) = true := decide_eq_true a
    clear a
    by_cases b : n.tmod d + d ≥ d - (n.tmod d + d)
    · rw [if_pos b]
      have b' : decide (d - (n.tmod d + d) ≤ n.tmod d + d) = true := decide_eq_true b
      clear b
      go_enter Try.func43, Try.ntmps43
      go_wp2
      go_quiet (fail)
      go_wp2
      go_returns
      exact ⟨by simp, by exact below_drewN (Below.refl _ _) _⟩
    · rw [if_neg b]
      have b' : decide (d - (n.tmod d + d) ≤ n.tmod d + d) = false := decide_eq_false b
      clear b
      go_enter Try.func43, Try.ntmps43
      go_wp2
      go_quiet (fail)
      go_wp2
      go_returns
      exact ⟨by simp, by exact below_drewN (Below.refl _ _) _⟩
  · rw [if_neg a]
    have a' : decide (n.tmod d < 0) = false := decide_eq_false a
    clear a
    by_cases b : n.tmod d ≥ d - n.tmod d
    · rw [if_pos b]
      have b' : decide (d - n.tmod d ≤ n.tmod d) = true := decide_eq_true b
      clear b
      go_enter Try.func43, Try.ntmps43
      go_wp2
      go_quiet (fail)
      go_wp2
      go_returns
      exact ⟨by simp, by exact below_drewN (Below.refl _ _) _⟩
    · rw [if_neg b]
      have b' : decide (d - n.tmod d ≤ n.tmod d) = false := decide_eq_false b
      clear b
      go_enter Try.func43, Try.ntmps43
      go_wp2
      go_quiet (fail)
      go_wp2
      go_returns
      exact ⟨by simp, by exact below_drewN (Below.refl _ _) _⟩
end Go.Proofs.Ytdemcleibpgglaa
