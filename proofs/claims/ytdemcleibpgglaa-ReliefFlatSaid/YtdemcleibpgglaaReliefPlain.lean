/- Plain laws on blends and lifts: what relief's functions reckon, in whole numbers. -/
import Derived.Test.YtdemcleibpgglaaWeights
namespace Go.Proofs.Ytdemcleibpgglaa
set_option linter.unusedVariables false
/-- Is there a blend of two directions at i of n? -/
def blok (x y z x' y' z' i n : Int) : Bool := there i n && inB x y z 1023 && inB x' y' z' 1023
/-- A part of a blend. -/
def blv (ok : Bool) (a b i n : Int) : Int := if ok then rnd (a * (n - i) + b * i) n else 0
/-- Is there a lifted point? -/
def lfok (x y z a b c t h : Int) : Bool := inB x y z 65024 && inB a b c 1023 && decide (0 ≤ mn t h) && decide (mx t h ≤ 255)
/-- How far a texel lifts. -/
def lfh (t h : Int) : Int := rnd (t * h) 255
/-- A part of a lifted point. -/
def lfv (ok : Bool) (x a t h : Int) : Int := if ok then x + rnd (a * lfh t h) 1024 else 0
theorem bl_le {a b i n : Int} (h1 : 1 ≤ n) (h2 : n ≤ 16) (h3 : 0 ≤ i) (h4 : i ≤ n) (ha : -1023 ≤ a ∧ a ≤ 1023) (hb : -1023 ≤ b ∧ b ≤ 1023) :
    (-16368 ≤ a * (n - i) ∧ a * (n - i) ≤ 16368) ∧ (-16368 ≤ b * i ∧ b * i ≤ 16368) ∧ (-1023 ≤ rnd (a * (n - i) + b * i) n ∧ rnd (a * (n - i) + b * i) n ≤ 1023) := by
  have p1 := Int.mul_le_mul_of_nonneg_right ha.1 (show 0 ≤ n - i by omega)
  have p2 := Int.mul_le_mul_of_nonneg_right ha.2 (show 0 ≤ n - i by omega)
  have q1 := Int.mul_le_mul_of_nonneg_right hb.1 h3
  have q2 := Int.mul_le_mul_of_nonneg_right hb.2 h3
  exact ⟨⟨by omega, by omega⟩, ⟨by omega, by omega⟩, rnd_ge _ _ _ (by omega) (by omega), rnd_le _ _ _ (by omega) (by omega)⟩
theorem lfh_le {t h : Int} (h1 : 0 ≤ t) (h2 : t ≤ 255) (h3 : 0 ≤ h) (h4 : h ≤ 255) : (0 ≤ t * h ∧ t * h ≤ 65025) ∧ 0 ≤ lfh t h ∧ lfh t h ≤ h := by
  have p0 := Int.mul_nonneg h1 h3
  have p1 := Int.mul_le_mul_of_nonneg_right h2 h3
  exact ⟨⟨p0, by omega⟩, rnd_ge _ _ _ (by omega) (by omega), rnd_le _ _ _ (by omega) (by omega)⟩
theorem lfv_le {a h : Int} (ha : -1023 ≤ a ∧ a ≤ 1023) (h0 : 0 ≤ h) : (-(1023 * h) ≤ a * h ∧ a * h ≤ 1023 * h) ∧ -h ≤ rnd (a * h) 1024 ∧ rnd (a * h) 1024 ≤ h := by
  have p1 := Int.mul_le_mul_of_nonneg_right ha.1 h0
  have p2 := Int.mul_le_mul_of_nonneg_right ha.2 h0
  exact ⟨⟨by omega, by omega⟩, rnd_ge _ _ _ (by omega) (by omega), rnd_le _ _ _ (by omega) (by omega)⟩
/-- The same the other way: no more than a unit apart. -/
theorem rnd_other (a d : Int) (hd : 0 < d) : 0 ≤ rnd a d + rnd (-a) d ∧ rnd a d + rnd (-a) d ≤ 1 := by
  obtain ⟨h1, h2⟩ := rnd_spec a d hd
  obtain ⟨h3, h4⟩ := rnd_spec (-a) d hd
  have e1 : (rnd a d + rnd (-a) d) * d = rnd a d * d + rnd (-a) d * d := Int.add_mul _ _ _
  generalize rnd a d = p at *
  generalize rnd (-a) d = q at *
  constructor
  · refine Int.not_lt.1 fun h => ?_
    have := Int.mul_le_mul_of_nonneg_right (show p + q ≤ -1 by omega) (show 0 ≤ d by omega)
    omega
  · refine Int.not_lt.1 fun h => ?_
    have := Int.mul_le_mul_of_nonneg_right (show 2 ≤ p + q by omega) (show 0 ≤ d by omega)
    omega
/-- The number of a texel: round and round. -/
def stp (n m : Int) : Int := (n / 16) % m
theorem stp_le {n m : Int} (h : 0 < m) : 0 ≤ stp n m ∧ stp n m < m := ⟨Int.emod_nonneg _ (by omega), Int.emod_lt_of_pos _ h⟩
theorem stp_add (n m k : Int) (h : 0 < m) : stp (n + 16 * m * k) m = stp n m := by
  unfold stp
  rw [show n + 16 * m * k = n + (m * k) * 16 by rw [Int.mul_comm (m * k), Int.mul_assoc], Int.add_mul_ediv_right _ _ (by omega), Int.add_mul_emod_self_left]
end Go.Proofs.Ytdemcleibpgglaa
