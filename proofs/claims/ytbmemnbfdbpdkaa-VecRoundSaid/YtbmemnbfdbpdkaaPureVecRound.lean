/- For every n, d, k of 64 bits: VecRound answers true (the nearest whole number is no more than half away; d whole units more are as many more). No condition. -/
import Derived.Test.YtbmemnbfdbpdkaaPVecRoundx2
namespace Go.Proofs.Ytbmemnbfdbpdkaa.Pure
open Go.RowKit Go.Proofs.Ytbmemnbfdbpdkaa.PVecRound Go.Proofs.YtbmemnbfdbpdkaaW.PrintWords Go.Proofs.YtbmemnbfdbpdkaaW.PrintLast
/-- n/d, to the nearest, halves up. -/
def rnd (n d : Int) : Int := (2 * n + d) / (2 * d)

theorem rnd_spec (n d : Int) (hd : 0 < d) : -d ≤ 2 * n - 2 * (rnd n d * d) ∧ 2 * n - 2 * (rnd n d * d) < d := by
  unfold rnd
  have h1 := Int.emod_nonneg (2 * n + d) (show (2 * d) ≠ 0 by omega)
  have h2 := Int.emod_lt_of_pos (2 * n + d) (show 0 < 2 * d by omega)
  have h3 := Int.mul_ediv_add_emod (2 * n + d) (2 * d)
  have h4 : 2 * d * ((2 * n + d) / (2 * d)) = 2 * ((2 * n + d) / (2 * d) * d) := by
    rw [Int.mul_assoc, Int.mul_comm d]
  omega

theorem rnd_unique (n d q : Int) (hd : 0 < d) (h1 : -d ≤ 2 * n - 2 * (q * d)) (h2 : 2 * n - 2 * (q * d) < d) : rnd n d = q := by
  obtain ⟨a, b⟩ := rnd_spec n d hd
  generalize rnd n d = r at a b
  have h3 : (r - q) * d < d := by rw [Int.sub_mul]; omega
  have h4 : -d < (r - q) * d := by rw [Int.sub_mul]; omega
  have h5 : r - q < 1 := by
    refine Int.lt_of_mul_lt_mul_right (a := d) ?_ (by omega)
    rw [Int.one_mul]; exact h3
  have h6 : -1 < r - q := by
    refine Int.lt_of_mul_lt_mul_right (a := d) ?_ (by omega)
    rw [Int.neg_mul, Int.one_mul]; exact h4
  omega

theorem rnd_mono (n m d : Int) (_hd : 0 < d) (h : n ≤ m) : rnd n d ≤ rnd m d := by
  unfold rnd
  exact Int.ediv_le_ediv (by omega) (by omega)

theorem rnd_add (n k d : Int) (hd : 0 < d) : rnd (n + k * d) d = rnd n d + k := by
  obtain ⟨a, b⟩ := rnd_spec n d hd
  refine rnd_unique _ _ _ hd ?_ ?_ <;> rw [Int.add_mul] <;> omega

theorem rnd_zero (d : Int) (hd : 0 < d) : rnd 0 d = 0 := rnd_unique _ _ _ hd (by omega) (by omega)
theorem rnd_mul (k d : Int) (hd : 0 < d) : rnd (k * d) d = k := rnd_unique _ _ _ hd (by omega) (by omega)

theorem rnd_scale (n d c : Int) (_hd : 0 < d) (hc : 0 < c) : rnd (c * n) (c * d) = rnd n d := by
  unfold rnd
  rw [show 2 * (c * n) + c * d = c * (2 * n + d) by rw [Int.mul_add, Int.mul_left_comm], show 2 * (c * d) = c * (2 * d) by rw [Int.mul_left_comm], Int.mul_ediv_mul_of_pos _ _ hc]

theorem rnd_ge (n d lo : Int) (hd : 0 < d) (h : lo * d ≤ n) : lo ≤ rnd n d := by
  have := rnd_mono (lo * d) n d hd h
  rwa [rnd_mul _ _ hd] at this
theorem rnd_le (n d hi : Int) (hd : 0 < d) (h : n ≤ hi * d) : rnd n d ≤ hi := by
  have := rnd_mono n (hi * d) d hd h
  rwa [rnd_mul _ _ hd] at this
/-- As Go reckons it: the quotient and the rest toward zero, mended. -/
theorem rnd_go (n d : Int) (hd : 0 < d) : rnd n d = (if n.tmod d < 0 then (if n.tmod d + d ≥ d - (n.tmod d + d) then n.tdiv d - 1 + 1 else n.tdiv d - 1) else (if n.tmod d ≥ d - n.tmod d then n.tdiv d + 1 else n.tdiv d)) := by
  have h1 := Int.mul_tdiv_add_tmod n d
  have h2 : n.tmod d < d := Int.tmod_lt_of_pos n hd
  have h3 : -d < n.tmod d := by
    have := Int.lt_tmod_of_pos n hd
    omega
  have e : n.tdiv d * d = d * n.tdiv d := Int.mul_comm _ _
  by_cases a : n.tmod d < 0
  · rw [if_pos a]
    by_cases b : n.tmod d + d ≥ d - (n.tmod d + d)
    · rw [if_pos b]; refine rnd_unique _ _ _ hd ?_ ?_ <;> simp only [Int.sub_mul, Int.add_mul] <;> omega
    · rw [if_neg b]; refine rnd_unique _ _ _ hd ?_ ?_ <;> simp only [Int.sub_mul] <;> omega
  · rw [if_neg a]
    by_cases b : n.tmod d ≥ d - n.tmod d
    · rw [if_pos b]; refine rnd_unique _ _ _ hd ?_ ?_ <;> simp only [Int.add_mul] <;> omega
    · rw [if_neg b]; refine rnd_unique _ _ _ hd ?_ ?_ <;> omega
theorem tdiv_small (n d B : Int) (_hd : 0 < d) (h1 : -B ≤ n) (h2 : n ≤ B) : -B ≤ n.tdiv d ∧ n.tdiv d ≤ B := by
  have := Int.natAbs_tdiv_le_natAbs n d
  omega

theorem w64 {x : Int} (h1 : -9223372036854775808 ≤ x) (h2 : x ≤ 9223372036854775807) : wrap64 x = x := by
  unfold wrap64; omega
theorem w64_add (x y : Int) : wrap64 (wrap64 x + y) = wrap64 (x + y) := by unfold wrap64; omega

theorem round_f (k : Nat) (n d : Int) (h1 : 1 ≤ d) (h2 : d ≤ 2305843009213693952) (h3 : -2305843009213693952 ≤ n) (h4 : n ≤ 2305843009213693952) :
    vec_Round.f (k + 1) n d = some (rnd n d) := by
  have hq := tdiv_small n d 2305843009213693952 (by omega) h3 h4
  have hm1 : n.tmod d < d := Int.tmod_lt_of_pos n (by omega)
  have hm2 : -d < n.tmod d := by have := Int.lt_tmod_of_pos n (show 0 < d by omega); omega
  rw [rnd_go n d (by omega)]
  unfold vec_Round.f
  rw [if_neg (by omega), if_neg (by rw [w64 (by omega) (by omega)]; unfold mx; omega), decide_eq_false (by omega)]
  rw [vec_Round.j0, if_neg (show ¬ (false = true) by decide), if_neg (show ¬ d = 0 by omega)]
  simp only [w64 (x := n.tdiv d) (by omega) (by omega)]
  by_cases a : n.tmod d < 0
  · rw [if_pos a, if_pos a, w64 (x := n.tmod d + d) (by omega) (by omega), w64 (x := d - (n.tmod d + d)) (by omega) (by omega), w64 (x := n.tdiv d - 1) (by omega) (by omega), w64 (x := n.tdiv d - 1 + 1) (by omega) (by omega)]
    split <;> rfl
  · rw [if_neg a, if_neg a, w64 (x := d - n.tmod d) (by omega) (by omega), w64 (x := n.tdiv d + 1) (by omega) (by omega)]
    split <;> rfl

theorem alive_f (k : Nat) : relievolaw02_alive.f (k + 2) = some true := by
  unfold relievolaw02_alive.f
  rw [round_f (k + 1) (-1) 2 (by omega) (by omega) (by omega) (by omega)]
  simp only [Option.bind_some]
  rw [if_pos (by decide), round_f (k + 1) 1 2 (by omega) (by omega) (by omega) (by omega)]
  simp only [Option.bind_some]
  rw [if_pos (by decide)]
  simp [vec_Cut.f, vec_Cut.l0, vec_Within.f, vec_Dot.f, mn, mx, wrap64]

theorem VecRound : relievolaw02_VecRound.Pure := by
  intro n d m _ _ _
  refine ⟨2, ?_⟩
  have main : (1 ≤ d ∧ d ≤ 1073741824 ∧ -1073741824 ≤ n ∧ n ≤ 1073741824 ∧ -1048576 ≤ m ∧ m ≤ 1048576) → relievolaw02_VecRound.j0 2 n d m false = some true := by
    intro ⟨h1, h2, h3, h4, h5, h6⟩
    rw [show (2 : Nat) = 1 + 1 from rfl, relievolaw02_VecRound.j0, if_neg (show ¬ (false = true) by decide), round_f 0 n d (by omega) (by omega) (by omega) (by omega)]
    simp only [Option.bind_some]
    obtain ⟨a, b⟩ := rnd_spec n d (by omega)
    have hr1 : -1073741824 ≤ rnd n d := rnd_ge _ _ _ (by omega) (by omega)
    have hr2 : rnd n d ≤ 1073741824 := rnd_le _ _ _ (by omega) (by omega)
    have p1 : -1125899906842624 ≤ m * d := by
      have := Int.mul_le_mul_of_nonneg_right h5 (show 0 ≤ d by omega)
      omega
    have p2 : m * d ≤ 1125899906842624 := by
      have := Int.mul_le_mul_of_nonneg_right h6 (show 0 ≤ d by omega)
      omega
    have e2 : 2 * rnd n d * d = 2 * (rnd n d * d) := Int.mul_assoc _ _ _
    rw [w64 (x := 2 * n) (by omega) (by omega), w64 (x := 2 * rnd n d) (by omega) (by omega), e2, w64 (x := 2 * (rnd n d * d)) (by omega) (by omega), w64 (x := 2 * n - 2 * (rnd n d * d)) (by omega) (by omega),
      w64 (x := -d) (by omega) (by omega), if_pos (by omega), if_pos (by omega), w64 (x := m * d) (by omega) (by omega), w64 (x := n + m * d) (by omega) (by omega), round_f 0 _ d (by omega) (by omega) (by omega) (by omega),
      rnd_add _ _ _ (by omega), w64 (x := rnd n d + m) (by omega) (by omega)]
    simp
  have triv : relievolaw02_VecRound.j0 2 n d m true = some true := by rw [show (2 : Nat) = 1 + 1 from rfl, relievolaw02_VecRound.j0, if_pos rfl]
  unfold relievolaw02_VecRound.f
  rw [alive_f 0]
  simp only [Option.bind_some, if_true]
  by_cases c1 : d < 1
  · rw [if_pos c1]; exact triv
  rw [if_neg c1]
  by_cases c2 : d > 1073741824
  · rw [if_pos c2]; exact triv
  rw [if_neg c2]
  by_cases c3 : n < -1073741824
  · rw [if_pos c3]; exact triv
  rw [if_neg c3]
  by_cases c4 : n > 1073741824
  · rw [if_pos c4]; exact triv
  rw [if_neg c4]
  by_cases c5 : m < -1048576
  · rw [if_pos c5]; exact triv
  rw [if_neg c5]
  by_cases c6 : m > 1048576
  · rw [decide_eq_true c6]; exact triv
  rw [decide_eq_false c6]
  exact main ⟨by omega, by omega, by omega, by omega, by omega, by omega⟩

end Go.Proofs.Ytbmemnbfdbpdkaa.Pure
