/- The weight of a patch's point, as the closure of curve.Point tells it. -/
import Derived.Test.YtdemcleibpgglaaWeights
import Derived.IntWalk
namespace Go.Proofs.Ytdemcleibpgglaa
open Go.RowKit
set_option maxRecDepth 100000
set_option linter.unusedSimpArgs false
set_option linter.unusedVariables false
theorem clo_two (k : Nat) (hk : k < 16) (bv bw : Nat) (a b c : Int) (hc : a * b = c) (h0 : 0 ≤ c) (h1 : c ≤ 16777216) (w : World) (hv : w.cell? ⟨bv, k % 4, none⟩ = some (.int .i64 a)) (hw : w.cell? ⟨bw, k / 4, none⟩ = some (.int .i64 b)) :
    Calls Try.prog 49 #[.int .i64 (k : Int), .pointer (some ⟨bv, 0, none⟩), .pointer (some ⟨bw, 0, none⟩)] w fun e w' => e = .returned (.int .i64 c) ∧ Below w.heap.size w w' := by
  have e1 : (k : Int).tmod 4 = ((k % 4 : Nat) : Int) := by rw [Int.tmod_eq_emod_of_nonneg (by omega)]; omega
  have e2 : (k : Int).tdiv 4 = ((k / 4 : Nat) : Int) := by rw [Int.tdiv_eq_ediv_of_nonneg (by omega)]; omega
  obtain ⟨u, hu⟩ : ∃ u, k % 4 = u := ⟨_, rfl⟩
  obtain ⟨v, hv'⟩ : ∃ v, k / 4 = v := ⟨_, rfl⟩
  have g1 : (u : Int) < 4 := by omega
  have g2 : (v : Int) < 4 := by omega
  have g5 : (0 : Int) ≤ (u : Int) := by omega
  have g6 : (0 : Int) ≤ (v : Int) := by omega
  rw [hu] at e1 hv
  rw [hv'] at e2 hw
  have e3 : IntKind.i64.wrap (v : Int) = (v : Int) := IntWalk.i64_in _ (by omega)
  have e4 : IntKind.i64.wrap (a * b) = c := by rw [hc]; exact IntWalk.i64_in _ (by omega)
  have g3 : (0 : Int) ≤ (k : Int) := by omega
  have g4 : (k : Int) < 16 := by omega
  clear hu hv' hc hk
  go_enter Try.func49, Try.ntmps49
  go_wp2
  go_quiet (fail)
  go_wp2
  go_returns
  exact ⟨by simp, by exact below_drewN (Below.refl _ _) _⟩
end Go.Proofs.Ytdemcleibpgglaa
