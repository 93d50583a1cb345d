/- The weights of a cubic, as the program tells them, for all numbers of 64 bits. -/
import Derived.Test.YtdemcleibpgglaaVec
import Derived.Deep.LoopGhost
namespace Go.Proofs.Ytdemcleibpgglaa
open Go.RowKit
set_option maxRecDepth 100000
set_option linter.unusedSimpArgs false
set_option linter.unusedVariables false
/-- Is i of n a place on a curve? -/
def there (i n : Int) : Bool := decide (1 ≤ n) && decide (n ≤ 16) && decide (0 ≤ i) && decide (i ≤ n)
theorem there_iff {i n : Int} : there i n = true ↔ 1 ≤ n ∧ n ≤ 16 ∧ 0 ≤ i ∧ i ≤ n := by
  simp only [there, Bool.and_eq_true, decide_eq_true_eq]; omega
/-- A cubic's weights at i of n. -/
def wt0 (i n : Int) : Int := (n - i) * (n - i) * (n - i)
def wt1 (i n : Int) : Int := 3 * (n - i) * (n - i) * i
def wt2 (i n : Int) : Int := 3 * (n - i) * i * i
def wt3 (i _n : Int) : Int := i * i * i
theorem mul_le {a b A B : Int} (h0 : 0 ≤ a) (h1 : a ≤ A) (h2 : 0 ≤ b) (h3 : b ≤ B) : 0 ≤ a * b ∧ a * b ≤ A * B :=
  ⟨Int.mul_nonneg h0 h2, Int.mul_le_mul h1 h3 h2 (by omega)⟩
theorem weights_any (i n : Int) (h : there i n = true) (w : World) :
    Calls Try.prog 40 #[.int .i64 i, .int .i64 n] w fun e w' => e = .returned (.tuple #[.agg #[.int .i64 (wt0 i n), .int .i64 (wt1 i n), .int .i64 (wt2 i n), .int .i64 (wt3 i n)], .bool true]) ∧ Below w.heap.size w w' := by
  rw [there_iff] at h
  obtain ⟨h1, h2, h3, h4⟩ := h
  unfold wt0 wt1 wt2 wt3
  have c1 : decide (n < 1) = false := decide_eq_false (by omega)
  have c2 : decide (16 < n) = false := decide_eq_false (by omega)
  have c3 : decide (i < 0) = false := decide_eq_false (by omega)
  have c4 : decide (n < i) = false := decide_eq_false (by omega)
  obtain ⟨k, hk⟩ : ∃ k, n - i = k := ⟨_, rfl⟩
  rw [hk]
  have k1 : 0 ≤ k := by omega
  have k2 : k ≤ 16 := by omega
  have i2 : i ≤ 16 := by omega
  have ⟨a1, a2⟩ := mul_le k1 k2 k1 k2
  have ⟨a3, a4⟩ := mul_le a1 a2 k1 k2
  have b1 : 0 ≤ 3 * k := by omega
  have b2 : 3 * k ≤ 48 := by omega
  have ⟨b3, b4⟩ := mul_le b1 b2 k1 k2
  have ⟨b5, b6⟩ := mul_le b3 b4 h3 i2
  have ⟨d1, d2⟩ := mul_le b1 b2 h3 i2
  have ⟨d3, d4⟩ := mul_le d1 d2 h3 i2
  have ⟨e1, e2⟩ := mul_le h3 i2 h3 i2
  have ⟨e3, e4⟩ := mul_le e1 e2 h3 i2
  go_enter Try.func40, Try.ntmps40
  go_wp2
  go_returns
  exact ⟨rfl, by go_grown⟩
theorem weights_none (i n : Int) (h : there i n = false) (w : World) :
    Calls Try.prog 40 #[.int .i64 i, .int .i64 n] w fun e w' => e = .returned (.tuple #[.agg #[.int .i64 0, .int .i64 0, .int .i64 0, .int .i64 0], .bool false]) ∧ Below w.heap.size w w' := by
  have h' : ¬ (1 ≤ n ∧ n ≤ 16 ∧ 0 ≤ i ∧ i ≤ n) := by rw [← there_iff, h]; simp
  clear h
  by_cases c1 : n < 1
  · have d1 : decide (n < 1) = true := decide_eq_true c1
    clear h' c1
    go_enter Try.func40, Try.ntmps40
    go_wp2
    go_returns
    exact ⟨rfl, by go_grown⟩
  have d1 : decide (n < 1) = false := decide_eq_false c1
  by_cases c2 : 16 < n
  · have d2 : decide (16 < n) = true := decide_eq_true c2
    clear h' c1 c2
    go_enter Try.func40, Try.ntmps40
    go_wp2
    go_returns
    exact ⟨rfl, by go_grown⟩
  have d2 : decide (16 < n) = false := decide_eq_false c2
  by_cases c3 : i < 0
  · have d3 : decide (i < 0) = true := decide_eq_true c3
    clear h' c1 c2 c3
    go_enter Try.func40, Try.ntmps40
    go_wp2
    go_returns
    exact ⟨rfl, by go_grown⟩
  have d3 : decide (i < 0) = false := decide_eq_false c3
  have d4 : decide (n < i) = true := decide_eq_true (by omega)
  clear h' c1 c2 c3
  go_enter Try.func40, Try.ntmps40
  go_wp2
  go_returns
  exact ⟨rfl, by go_grown⟩
end Go.Proofs.Ytdemcleibpgglaa
