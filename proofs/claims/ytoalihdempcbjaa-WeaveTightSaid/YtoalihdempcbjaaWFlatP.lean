/- weave laid flat, plain: the area of each triangle, and their sum. -/
import Derived.Test.YtoalihdempcbjaaPlace
import Derived.Test.YtoalihdempcbjaaRWv1
namespace Go.Proofs.Ytoalihdempcbjaa
open Go.RowKit
set_option maxRecDepth 100000
set_option linter.unusedSimpArgs false
set_option linter.unusedVariables false
def pk (k x : Nat) : Nat × Nat := if k = 0 then (x, 0) else if k = 1 then (720720, x) else if k = 2 then (720720 - x, 720720) else (0, 720720 - x)
def pl (R : Rt) (s : T3) : Nat × Nat := if s.1 = 3 then (s.2.1 * 720720 / R.m, s.2.2 * 720720 / R.m) else if s.1 = 2 then pk s.2.1 (s.2.2 * 720720 / R.r s.2.1) else pk s.2.1 0
theorem part_mul0 : ∀ m, m < 17 → 1 ≤ m → m * (720720 / m) = 720720 := by decide
theorem part_mul (m : Nat) (h1 : 1 ≤ m) (h2 : m ≤ 16) : m * (720720 / m) = 720720 := part_mul0 m (by omega) h1
theorem part_div {a m : Nat} (h1 : 1 ≤ m) (h2 : m ≤ 16) : a * 720720 / m = a * (720720 / m) := by
  have h := part_mul m h1 h2
  conv => lhs; rw [← h, ← Nat.mul_assoc, Nat.mul_comm a m, Nat.mul_assoc]
  exact Nat.mul_div_cancel_left _ h1
def cr (a b c : Nat × Nat) : Int := ((b.1 : Int) - (a.1 : Int)) * ((c.2 : Int) - (a.2 : Int)) - ((b.2 : Int) - (a.2 : Int)) * ((c.1 : Int) - (a.1 : Int))
theorem cr_of {a b c : Nat × Nat} {d1 d2 d3 d4 : Int} (h1 : (b.1 : Int) - (a.1 : Int) = d1) (h2 : (c.2 : Int) - (a.2 : Int) = d2) (h3 : (b.2 : Int) - (a.2 : Int) = d3) (h4 : (c.1 : Int) - (a.1 : Int) = d4) : cr a b c = d1 * d2 - d3 * d4 := by
  rw [cr, h1, h2, h3, h4]
theorem pl_inn {R : Rt} (hR : R.ok) (a b : Nat) : pl R (3, a, b) = (a * (720720 / R.m), b * (720720 / R.m)) := by
  have hm := Rt.ok_m hR
  rw [pl, if_pos rfl, part_div hm.1 hm.2, part_div hm.1 hm.2]
theorem pl_ou {R : Rt} (hR : R.ok) {k i : Nat} (hk : k < 4) (hi : i ≤ R.r k) : pl R (ouS R k i) = pk k (i * (720720 / R.r k)) := by
  have hr := Rt.ok_r hR k
  unfold ouS
  split
  · rename_i h; subst h
    rw [Nat.zero_mul]; rfl
  · split
    · rename_i h
      rw [h, part_mul _ hr.1 hr.2.1]
      match k, hk with
      | 0, _ => rfl
      | 1, _ => rfl
      | 2, _ => rfl
      | 3, _ => rfl
    · rw [← part_div hr.1 hr.2.1]; rfl
/-- A triangle beside a side: two spots of the side, one inner. -/
theorem area_o {R : Rt} (hR : R.ok) {k i t : Nat} (hk : k < 4) (hi : i < R.r k) (ht : 1 ≤ t ∧ t < R.m) :
    cr (pl R (ouS R k i)) (pl R (ouS R k (i + 1))) (pl R (besS R.m k t)) = ((720720 / R.r k : Nat) : Int) * ((720720 / R.m : Nat) : Int) := by
  have hm := Rt.ok_m hR
  have hr := Rt.ok_r hR k
  rw [pl_ou hR hk (by omega), pl_ou hR hk hi]
  have hU := part_mul R.m hm.1 hm.2
  have hV := part_mul (R.r k) hr.1 hr.2.1
  generalize 720720 / R.r k = v at hV ⊢
  have hX : (i + 1) * v = i * v + v := Nat.succ_mul i v
  have hX2 : (i + 1) * v ≤ 720720 := by rw [← hV]; exact Nat.mul_le_mul_right v hi
  rw [hX] at hX2 ⊢
  generalize i * v = X at hX2 ⊢
  match k, hk with
  | 0, _ =>
    rw [show besS R.m 0 t = (3, t, 1) from rfl, pl_inn hR]
    generalize 720720 / R.m = u at hU ⊢
    have e := cr_of (a := pk 0 X) (b := pk 0 (X + v)) (c := (t * u, 1 * u)) (d1 := (v : Int)) (d2 := (u : Int)) (d3 := 0) (d4 := _) (by simp only [pk, if_pos]; omega) (by simp only [pk, if_pos]; omega) (by simp only [pk, if_pos]; omega) rfl
    rw [e, Int.zero_mul, Int.sub_zero]
  | 1, _ =>
    rw [show besS R.m 1 t = (3, R.m - 1, t) from rfl, pl_inn hR]
    have hq : (R.m - 1) * (720720 / R.m) + 720720 / R.m = 720720 := by rw [← Nat.succ_mul, Nat.succ_eq_add_one, Nat.sub_add_cancel hm.1]; exact hU
    generalize 720720 / R.m = u at hq ⊢
    have e := cr_of (a := pk 1 X) (b := pk 1 (X + v)) (c := ((R.m - 1) * u, t * u)) (d1 := 0) (d2 := _) (d3 := (v : Int)) (d4 := -(u : Int)) (by simp [pk]) rfl (by simp [pk]; omega) (by simp [pk]; omega)
    rw [e, Int.zero_mul, Int.mul_neg]; omega
  | 2, _ =>
    rw [show besS R.m 2 t = (3, R.m - t, R.m - 1) from rfl, pl_inn hR]
    have hq : (R.m - 1) * (720720 / R.m) + 720720 / R.m = 720720 := by rw [← Nat.succ_mul, Nat.succ_eq_add_one, Nat.sub_add_cancel hm.1]; exact hU
    generalize 720720 / R.m = u at hq ⊢
    have e := cr_of (a := pk 2 X) (b := pk 2 (X + v)) (c := ((R.m - t) * u, (R.m - 1) * u)) (d1 := -(v : Int)) (d2 := -(u : Int)) (d3 := 0) (d4 := _) (by simp [pk]; omega) (by simp [pk]; omega) (by simp [pk]) rfl
    rw [e, Int.zero_mul, Int.sub_zero, Int.neg_mul_neg]
  | 3, _ =>
    rw [show besS R.m 3 t = (3, 1, R.m - t) from rfl, pl_inn hR]
    generalize 720720 / R.m = u at hU ⊢
    have e := cr_of (a := pk 3 X) (b := pk 3 (X + v)) (c := (1 * u, (R.m - t) * u)) (d1 := 0) (d2 := _) (d3 := -(v : Int)) (d4 := (u : Int)) (by simp [pk]) rfl (by simp [pk]; omega) (by simp [pk])
    rw [e, Int.zero_mul, Int.neg_mul]; omega
/-- .. one spot of the side, two inner. -/
theorem area_t {R : Rt} (hR : R.ok) {k i t : Nat} (hk : k < 4) (hi : i ≤ R.r k) (ht : 1 ≤ t ∧ t + 1 < R.m) :
    cr (pl R (ouS R k i)) (pl R (besS R.m k (t + 1))) (pl R (besS R.m k t)) = ((720720 / R.m : Nat) : Int) * ((720720 / R.m : Nat) : Int) := by
  have hm := Rt.ok_m hR
  have hr := Rt.ok_r hR k
  rw [pl_ou hR hk hi]
  have hU := part_mul R.m hm.1 hm.2
  have hV := part_mul (R.r k) hr.1 hr.2.1
  generalize 720720 / R.r k = v at hV ⊢
  have hX2 : i * v ≤ 720720 := by rw [← hV]; exact Nat.mul_le_mul_right v hi
  generalize i * v = X at hX2 ⊢
  have key : ∀ x y u : Int, x - y = u → x * u - u * y = u * u := fun x y u h => by rw [Int.mul_comm x u, ← Int.mul_sub, h]
  have hq : (R.m - 1) * (720720 / R.m) + 720720 / R.m = 720720 := by rw [← Nat.succ_mul, Nat.succ_eq_add_one, Nat.sub_add_cancel hm.1]; exact hU
  have hs : (R.m - t) * (720720 / R.m) = (R.m - (t + 1)) * (720720 / R.m) + 720720 / R.m := by rw [← Nat.succ_mul, Nat.succ_eq_add_one, show R.m - (t + 1) + 1 = R.m - t by omega]
  have ht2 : (t + 1) * (720720 / R.m) = t * (720720 / R.m) + 720720 / R.m := Nat.succ_mul _ _
  match k, hk with
  | 0, _ =>
    rw [show besS R.m 0 (t + 1) = (3, t + 1, 1) from rfl, show besS R.m 0 t = (3, t, 1) from rfl, pl_inn hR, pl_inn hR, ht2]
    generalize 720720 / R.m = u at *
    have e := cr_of (a := pk 0 X) (b := (t * u + u, 1 * u)) (c := (t * u, 1 * u)) (d1 := ((t * u + u : Nat) : Int) - (X : Int)) (d2 := (u : Int)) (d3 := (u : Int)) (d4 := ((t * u : Nat) : Int) - (X : Int)) (by simp [pk]) (by simp [pk]) (by simp [pk]) (by simp [pk])
    rw [e]
    exact key _ _ _ (by omega)
  | 1, _ =>
    rw [show besS R.m 1 (t + 1) = (3, R.m - 1, t + 1) from rfl, show besS R.m 1 t = (3, R.m - 1, t) from rfl, pl_inn hR, pl_inn hR, ht2]
    generalize 720720 / R.m = u at *
    have e := cr_of (a := pk 1 X) (b := ((R.m - 1) * u, t * u + u)) (c := ((R.m - 1) * u, t * u)) (d1 := -(u : Int)) (d2 := ((t * u : Nat) : Int) - (X : Int)) (d3 := ((t * u + u : Nat) : Int) - (X : Int)) (d4 := -(u : Int)) (by simp [pk]; omega) (by simp [pk]) (by simp [pk]) (by simp [pk]; omega)
    rw [e, Int.neg_mul, Int.mul_neg, ← key (((t * u + u : Nat) : Int) - (X : Int)) (((t * u : Nat) : Int) - (X : Int)) u (by omega)]
    omega
  | 2, _ =>
    rw [show besS R.m 2 (t + 1) = (3, R.m - (t + 1), R.m - 1) from rfl, show besS R.m 2 t = (3, R.m - t, R.m - 1) from rfl, pl_inn hR, pl_inn hR, hs]
    generalize 720720 / R.m = u at *
    generalize (R.m - (t + 1)) * u = Z at *
    have e := cr_of (a := pk 2 X) (b := (Z, (R.m - 1) * u)) (c := (Z + u, (R.m - 1) * u)) (d1 := (Z : Int) - 720720 + (X : Int)) (d2 := -(u : Int)) (d3 := -(u : Int)) (d4 := (Z : Int) + (u : Int) - 720720 + (X : Int)) (by simp [pk]; omega) (by simp [pk]; omega) (by simp [pk]; omega) (by simp [pk]; omega)
    rw [e, Int.neg_mul, Int.mul_neg, ← key ((Z : Int) + (u : Int) - 720720 + (X : Int)) ((Z : Int) - 720720 + (X : Int)) u (by omega), Int.mul_comm ((Z : Int) + (u : Int) - 720720 + (X : Int)) (u : Int), Int.mul_comm ((Z : Int) - 720720 + (X : Int)) (u : Int)]
    omega
  | 3, _ =>
    rw [show besS R.m 3 (t + 1) = (3, 1, R.m - (t + 1)) from rfl, show besS R.m 3 t = (3, 1, R.m - t) from rfl, pl_inn hR, pl_inn hR, hs]
    generalize 720720 / R.m = u at *
    generalize (R.m - (t + 1)) * u = Z at *
    have e := cr_of (a := pk 3 X) (b := (1 * u, Z)) (c := (1 * u, Z + u)) (d1 := (u : Int)) (d2 := (Z : Int) + (u : Int) - 720720 + (X : Int)) (d3 := (Z : Int) - 720720 + (X : Int)) (d4 := (u : Int)) (by simp [pk]) (by simp [pk]; omega) (by simp [pk]; omega) (by simp [pk])
    rw [e, ← key ((Z : Int) + (u : Int) - 720720 + (X : Int)) ((Z : Int) - 720720 + (X : Int)) u (by omega), Int.mul_comm (u : Int) ((Z : Int) + (u : Int) - 720720 + (X : Int)), Int.mul_comm ((Z : Int) - 720720 + (X : Int)) (u : Int)]
end Go.Proofs.Ytoalihdempcbjaa
