/- Plain laws on a cubic's weights: their sum, told backwards, and that a weighed sum of rising numbers rises. -/
import Derived.Test.YtdemcleibpgglaaWeights
namespace Go.Proofs.Ytdemcleibpgglaa
set_option linter.unusedVariables false
theorem wt_all (i n : Int) : wt0 i n + wt1 i n + wt2 i n + wt3 i n = n * n * n := by
  unfold wt0 wt1 wt2 wt3; grind
theorem wt_back (i n : Int) : wt0 (n - i) n = wt3 i n ∧ wt1 (n - i) n = wt2 i n ∧ wt2 (n - i) n = wt1 i n ∧ wt3 (n - i) n = wt0 i n := by
  unfold wt0 wt1 wt2 wt3
  have e : n - (n - i) = i := by omega
  rw [e]
  refine ⟨rfl, ?_, ?_, rfl⟩ <;> grind
/-- rising points: the tails of the weights rise with i. -/
theorem wt_tail3 {i n : Int} (h0 : 0 ≤ i) (h1 : i + 1 ≤ n) : wt3 i n ≤ wt3 (i + 1) n := by
  unfold wt3
  have : (i + 1) * (i + 1) * (i + 1) = i * i * i + (3 * (i * i) + 3 * i + 1) := by grind
  have := Int.mul_nonneg h0 h0
  omega
theorem wt_tail2 {i n : Int} (h0 : 0 ≤ i) (h1 : i + 1 ≤ n) : wt2 i n + wt3 i n ≤ wt2 (i + 1) n + wt3 (i + 1) n := by
  unfold wt2 wt3
  obtain ⟨m, hm, rfl⟩ : ∃ m : Int, 0 ≤ m ∧ n = i + 1 + m := ⟨n - i - 1, by omega, by omega⟩
  have e1 : i + 1 + m - i = m + 1 := by omega
  have e2 : i + 1 + m - (i + 1) = m := by omega
  rw [e1, e2]
  have : 3 * m * (i + 1) * (i + 1) + (i + 1) * (i + 1) * (i + 1) = 3 * (m + 1) * i * i + i * i * i + (6 * (m * i) + 3 * m + 3 * i + 1) := by grind
  have := Int.mul_nonneg hm h0
  omega
theorem wt_tail1 {i n : Int} (h0 : 0 ≤ i) (h1 : i + 1 ≤ n) : wt1 i n + wt2 i n + wt3 i n ≤ wt1 (i + 1) n + wt2 (i + 1) n + wt3 (i + 1) n := by
  have a := wt_all i n
  have b := wt_all (i + 1) n
  have c : wt0 (i + 1) n ≤ wt0 i n := by
    unfold wt0
    obtain ⟨m, hm, rfl⟩ : ∃ m : Int, 0 ≤ m ∧ n = i + 1 + m := ⟨n - i - 1, by omega, by omega⟩
    have e1 : i + 1 + m - i = m + 1 := by omega
    have e2 : i + 1 + m - (i + 1) = m := by omega
    rw [e1, e2]
    have : (m + 1) * (m + 1) * (m + 1) = m * m * m + (3 * (m * m) + 3 * m + 1) := by grind
    have := Int.mul_nonneg hm hm
    omega
  omega
/-- A weighed sum of rising numbers rises. -/
theorem sum_rises {i n a b c d : Int} (h0 : 0 ≤ i) (h1 : i + 1 ≤ n) (hab : a ≤ b) (hbc : b ≤ c) (hcd : c ≤ d) :
    a * wt0 i n + b * wt1 i n + c * wt2 i n + d * wt3 i n ≤ a * wt0 (i + 1) n + b * wt1 (i + 1) n + c * wt2 (i + 1) n + d * wt3 (i + 1) n := by
  have t3 := wt_tail3 h0 h1
  have t2 := wt_tail2 h0 h1
  have t1 := wt_tail1 h0 h1
  have A := wt_all i n
  have B := wt_all (i + 1) n
  have p1 := Int.mul_le_mul_of_nonneg_left t1 (show 0 ≤ b - a by omega)
  have p2 := Int.mul_le_mul_of_nonneg_left t2 (show 0 ≤ c - b by omega)
  have p3 := Int.mul_le_mul_of_nonneg_left t3 (show 0 ≤ d - c by omega)
  have e : ∀ u v w x : Int, a * u + b * v + c * w + d * x = a * (u + v + w + x) + (b - a) * (v + w + x) + (c - b) * (w + x) + (d - c) * x := by intros; grind
  rw [e, e, A, B]
  omega
end Go.Proofs.Ytdemcleibpgglaa
