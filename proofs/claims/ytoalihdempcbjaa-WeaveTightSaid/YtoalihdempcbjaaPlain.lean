/- Plain laws on whole numbers: the nearest whole number of a fraction, the greater and the lesser of two, numbers that go round at 64 bits. No condition beyond those that each law names. -/
namespace Go.Proofs.Ytoalihdempcbjaa
/-- n/d, to the nearest whole number, halves up. -/
def rnd (n d : Int) : Int := (2 * n + d) / (2 * d)
def mx (a b : Int) : Int := if a < b then b else a
def mn (a b : Int) : Int := if b < a then b else a
theorem mx_le {a b c : Int} : mx a b ≤ c ↔ a ≤ c ∧ b ≤ c := by unfold mx; split <;> omega
theorem le_mn {a b c : Int} : c ≤ mn a b ↔ c ≤ a ∧ c ≤ b := by unfold mn; split <;> omega

theorem rnd_spec (n d : Int) (hd : 0 < d) : -d ≤ 2 * n - 2 * (rnd n d * d) ∧ 2 * n - 2 * (rnd n d * d) < d := by
  unfold rnd
  have h1 := Int.emod_nonneg (2 * n + d) (show (2 * d) ≠ 0 by omega)
  have h2 := Int.emod_lt_of_pos (2 * n + d) (show 0 < 2 * d by omega)
  have h3 := Int.mul_ediv_add_emod (2 * n + d) (2 * d)
  have h4 : 2 * d * ((2 * n + d) / (2 * d)) = 2 * ((2 * n + d) / (2 * d) * d) := by
    rw [Int.mul_assoc, Int.mul_comm d]
  omega

theorem rnd_unique (n d q : Int) (hd : 0 < d) (h1 : -d ≤ 2 * n - 2 * (q * d)) (h2 : 2 * n - 2 * (q * d) < d) : rnd n d = q := by
  obtain ⟨a, b⟩ := rnd_spec n d hd
  generalize rnd n d = r at a b
  have h3 : (r - q) * d < d := by rw [Int.sub_mul]; omega
  have h4 : -d < (r - q) * d := by rw [Int.sub_mul]; omega
  have h5 : r - q < 1 := by
    refine Int.lt_of_mul_lt_mul_right (a := d) ?_ (by omega)
    rw [Int.one_mul]; exact h3
  have h6 : -1 < r - q := by
    refine Int.lt_of_mul_lt_mul_right (a := d) ?_ (by omega)
    rw [Int.neg_mul, Int.one_mul]; exact h4
  omega

theorem rnd_mono (n m d : Int) (_hd : 0 < d) (h : n ≤ m) : rnd n d ≤ rnd m d := by
  unfold rnd
  exact Int.ediv_le_ediv (by omega) (by omega)

theorem rnd_add (n k d : Int) (hd : 0 < d) : rnd (n + k * d) d = rnd n d + k := by
  obtain ⟨a, b⟩ := rnd_spec n d hd
  refine rnd_unique _ _ _ hd ?_ ?_ <;> rw [Int.add_mul] <;> omega

theorem rnd_zero (d : Int) (hd : 0 < d) : rnd 0 d = 0 := rnd_unique _ _ _ hd (by omega) (by omega)
theorem rnd_mul (k d : Int) (hd : 0 < d) : rnd (k * d) d = k := rnd_unique _ _ _ hd (by omega) (by omega)
theorem rnd_one (n : Int) : rnd n 1 = n := by have := rnd_mul n 1 (by omega); rwa [Int.mul_one] at this

theorem rnd_scale (n d c : Int) (_hd : 0 < d) (hc : 0 < c) : rnd (c * n) (c * d) = rnd n d := by
  unfold rnd
  rw [show 2 * (c * n) + c * d = c * (2 * n + d) by rw [Int.mul_add, Int.mul_left_comm], show 2 * (c * d) = c * (2 * d) by rw [Int.mul_left_comm], Int.mul_ediv_mul_of_pos _ _ hc]

theorem rnd_ge (n d lo : Int) (hd : 0 < d) (h : lo * d ≤ n) : lo ≤ rnd n d := by
  have := rnd_mono (lo * d) n d hd h
  rwa [rnd_mul _ _ hd] at this
theorem rnd_le (n d hi : Int) (hd : 0 < d) (h : n ≤ hi * d) : rnd n d ≤ hi := by
  have := rnd_mono n (hi * d) d hd h
  rwa [rnd_mul _ _ hd] at this
/-- As Go reckons it: the quotient and the rest toward zero, mended. -/
theorem rnd_go (n d : Int) (hd : 0 < d) : rnd n d = (if n.tmod d < 0 then (if n.tmod d + d ≥ d - (n.tmod d + d) then n.tdiv d - 1 + 1 else n.tdiv d - 1) else (if n.tmod d ≥ d - n.tmod d then n.tdiv d + 1 else n.tdiv d)) := by
  have h1 := Int.mul_tdiv_add_tmod n d
  have h2 : n.tmod d < d := Int.tmod_lt_of_pos n hd
  have h3 : -d < n.tmod d := by
    have := Int.lt_tmod_of_pos n hd
    omega
  have e : n.tdiv d * d = d * n.tdiv d := Int.mul_comm _ _
  by_cases a : n.tmod d < 0
  · rw [if_pos a]
    by_cases b : n.tmod d + d ≥ d - (n.tmod d + d)
    · rw [if_pos b]; refine rnd_unique _ _ _ hd ?_ ?_ <;> simp only [Int.sub_mul, Int.add_mul] <;> omega
    · rw [if_neg b]; refine rnd_unique _ _ _ hd ?_ ?_ <;> simp only [Int.sub_mul] <;> omega
  · rw [if_neg a]
    by_cases b : n.tmod d ≥ d - n.tmod d
    · rw [if_pos b]; refine rnd_unique _ _ _ hd ?_ ?_ <;> simp only [Int.add_mul] <;> omega
    · rw [if_neg b]; refine rnd_unique _ _ _ hd ?_ ?_ <;> omega
theorem tdiv_small (n d B : Int) (_hd : 0 < d) (h1 : -B ≤ n) (h2 : n ≤ B) : -B ≤ n.tdiv d ∧ n.tdiv d ≤ B := by
  have := Int.natAbs_tdiv_le_natAbs n d
  omega
end Go.Proofs.Ytoalihdempcbjaa
