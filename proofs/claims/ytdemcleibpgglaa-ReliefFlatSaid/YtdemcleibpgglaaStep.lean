/- What relief's step answers: a contract. -/
import Derived.Test.YtdemcleibpgglaaReliefPlain
import Derived.Test.YtdemcleibpgglaaMinMax
import Derived.Test.YtdemcleibpgglaaSlices
import Derived.Test.YtdemcleibpgglaaRelief
import Derived.IntWalk
namespace Go.Proofs.Ytdemcleibpgglaa
open Go.RowKit
set_option maxRecDepth 100000
set_option linter.unusedSimpArgs false
set_option linter.unusedVariables false
theorem tmod_neg {q m : Int} (hm : 0 < m) (h : q.tmod m < 0) : q.tmod m + m = q % m := by
  have e := Int.mul_tdiv_add_tmod q m
  have l := Int.lt_tmod_of_pos q hm
  have : q = (q.tmod m + m) + m * (q.tdiv m - 1) := by rw [Int.mul_sub, Int.mul_one]; omega
  rw [show q % m = ((q.tmod m + m) + m * (q.tdiv m - 1)) % m by rw [← this], Int.add_mul_emod_self_left, Int.emod_eq_of_lt (by omega) (by omega)]
theorem tmod_nonneg {q m : Int} (hm : 0 < m) (h : 0 ≤ q.tmod m) : q.tmod m = q % m := by
  have e := Int.mul_tdiv_add_tmod q m
  have l := Int.tmod_lt_of_pos q hm
  rw [show q % m = (q.tmod m + m * q.tdiv m) % m by congr 1; omega, Int.add_mul_emod_self_left, Int.emod_eq_of_lt (by omega) (by omega)]
theorem step_any (n m s : Int) (hs : stp n m = s) (hm : 1 ≤ m) (hm' : m ≤ 16) (w : World) :
    Calls Try.prog 48 #[.int .i64 n, .int .i64 m] w fun e w' => e = .returned (.int .i64 s) ∧ Below w.heap.size w w' := by
  subst hs
  unfold stp
  have c0 : (m == 0) = false := beq_eq_false_iff_ne.mpr (by omega)
  have b := Int.emod_lt_of_pos (n / 16) (show 0 < m by omega)
  have b0 := Int.emod_nonneg (n / 16) (show m ≠ 0 by omega)
  by_cases h : (n / 16).tmod m < 0
  · have d : decide ((n / 16).tmod m < 0) = true := decide_eq_true h
    have e := tmod_neg (show 0 < m by omega) h
    have f : IntKind.i64.wrap ((n / 16).tmod m + m) = n / 16 % m := by rw [e]; exact IntWalk.i64_in _ (by omega)
    rw [← e]
    have e' := e
    clear e
    go_enter Try.func48, Try.ntmps48
    go_wp2
    go_returns
    exact ⟨by simp; omega, by go_grown⟩
  · have d : decide ((n / 16).tmod m < 0) = false := decide_eq_false h
    have e := tmod_nonneg (q := n / 16) (show 0 < m by omega) (by omega)
    rw [← e]
    clear b b0 e
    go_enter Try.func48, Try.ntmps48
    go_wp2
    go_returns
    exact ⟨by simp, by go_grown⟩
/-- Is a texture right? -/
def rightB (a b : Int) (zs : List Int) : Bool := decide (1 ≤ a) && decide (a ≤ 16) && decide (1 ≤ b) && decide (b ≤ 16) && decide ((zs.length : Int) = a * b) && decide (0 ≤ Lib.minOf zs) && decide (Lib.maxOf zs ≤ 255)
theorem right_any (s v : Value) (a b : Int) (zs : List Int) (r : Bool) (hr : rightB a b zs = r) (w : World) (hv : Ints w v zs) :
    Calls Try.prog 47 #[.agg #[s, .int .i64 a, .int .i64 b, v]] w fun e w' => e = .returned (.bool r) ∧ Below w.heap.size w w' := by
  subst hr
  unfold rightB
  by_cases h1 : 1 ≤ a
  case neg =>
    have d1 : decide (1 ≤ a) = false := decide_eq_false h1
    clear h1 hv
    go_enter Try.func47, Try.ntmps47
    go_wp2
    go_returns
    exact ⟨by simp [*], by (repeat' (first | (with_reducible exact Below.refl _ _) | (with_reducible refine bstep (by with_reducible assumption) ?_) | (with_reducible refine Below.alloc ?_ ?_ _) | (with_reducible refine Below.drew ?_) | (with_reducible refine below_drewN ?_ _) | (with_reducible refine Below.setCell ?_ ?_ _) | go_size))⟩
  have d1 : decide (1 ≤ a) = true := decide_eq_true h1
  by_cases h2 : a ≤ 16
  case neg =>
    have d2 : decide (a ≤ 16) = false := decide_eq_false h2
    clear h2 hv h1
    go_enter Try.func47, Try.ntmps47
    go_wp2
    go_returns
    exact ⟨by simp [*], by (repeat' (first | (with_reducible exact Below.refl _ _) | (with_reducible refine bstep (by with_reducible assumption) ?_) | (with_reducible refine Below.alloc ?_ ?_ _) | (with_reducible refine Below.drew ?_) | (with_reducible refine below_drewN ?_ _) | (with_reducible refine Below.setCell ?_ ?_ _) | go_size))⟩
  have d2 : decide (a ≤ 16) = true := decide_eq_true h2
  by_cases h3 : 1 ≤ b
  case neg =>
    have d3 : decide (1 ≤ b) = false := decide_eq_false h3
    clear h3 hv h1 h2
    go_enter Try.func47, Try.ntmps47
    go_wp2
    go_returns
    exact ⟨by simp [*], by (repeat' (first | (with_reducible exact Below.refl _ _) | (with_reducible refine bstep (by with_reducible assumption) ?_) | (with_reducible refine Below.alloc ?_ ?_ _) | (with_reducible refine Below.drew ?_) | (with_reducible refine below_drewN ?_ _) | (with_reducible refine Below.setCell ?_ ?_ _) | go_size))⟩
  have d3 : decide (1 ≤ b) = true := decide_eq_true h3
  by_cases h4 : b ≤ 16
  case neg =>
    have d4 : decide (b ≤ 16) = false := decide_eq_false h4
    clear h4 hv h1 h2 h3
    go_enter Try.func47, Try.ntmps47
    go_wp2
    go_returns
    exact ⟨by simp [*], by (repeat' (first | (with_reducible exact Below.refl _ _) | (with_reducible refine bstep (by with_reducible assumption) ?_) | (with_reducible refine Below.alloc ?_ ?_ _) | (with_reducible refine Below.drew ?_) | (with_reducible refine below_drewN ?_ _) | (with_reducible refine Below.setCell ?_ ?_ _) | go_size))⟩
  have d4 : decide (b ≤ 16) = true := decide_eq_true h4
  have ⟨p1, p2⟩ := mul_le (show 0 ≤ a by omega) h2 (show 0 ≤ b by omega) h4
  have hp : 1 ≤ a * b := by have := Int.mul_le_mul h1 h3 (by omega) (by omega); omega
  have m0 : IntKind.i64.wrap (a * b) = a * b := IntWalk.i64_in _ (by omega)
  have m1 : wrap64 (a * b) = a * b := w64 (by omega) (by omega)
  obtain ⟨ab, hab⟩ : ∃ p, a * b = p := ⟨_, rfl⟩
  rw [hab] at p1 p2 hp m0 m1 ⊢
  rcases hv with ⟨rfl, p, c, rfl⟩ | ⟨bl, off, c, rfl, h0, hc, hm, hlt, hcell⟩
  · have d5 : (0 == ab) = false := beq_eq_false_iff_ne.mpr (by omega)
    have d6 : decide ((([] : List Int).length : Int) = ab) = false := decide_eq_false (by simp; omega)
    have d7 : ¬ (0 : Int) = ab := by omega
    clear h1 h2 h3 h4 p1 p2 hp
    go_enter Try.func47, Try.ntmps47
    go_wp2
    go_returns
    exact ⟨by simp [*], by (repeat' (first | (with_reducible exact Below.refl _ _) | (with_reducible refine bstep (by with_reducible assumption) ?_) | (with_reducible refine Below.alloc ?_ ?_ _) | (with_reducible refine Below.drew ?_) | (with_reducible refine below_drewN ?_ _) | (with_reducible refine Below.setCell ?_ ?_ _) | go_size))⟩
  obtain ⟨n, hn⟩ : ∃ n, zs.length = n := ⟨_, rfl⟩
  rw [hn] at h0 hc hcell ⊢
  by_cases h5 : (n : Int) = ab
  case neg =>
    have d5 : decide ((n : Int) = ab) = false := decide_eq_false h5
    clear h1 h2 h3 h4 p1 p2 hp hcell hc hm
    go_enter Try.func47, Try.ntmps47
    go_wp2
    go_returns
    exact ⟨by simp [*], by (repeat' (first | (with_reducible exact Below.refl _ _) | (with_reducible refine bstep (by with_reducible assumption) ?_) | (with_reducible refine Below.alloc ?_ ?_ _) | (with_reducible refine Below.drew ?_) | (with_reducible refine below_drewN ?_ _) | (with_reducible refine Below.setCell ?_ ?_ _) | go_size))⟩
  have d5 : decide ((n : Int) = ab) = true := decide_eq_true h5
  have hcell' : ∀ (w' : World), Below w.heap.size w w' → ∀ j, j < zs.length → w'.cell? ⟨bl, off + j, none⟩ = some (.int .i64 (zs.getD j 0)) := fun w' hb j hj => by
    rw [hb.cell (p := ⟨bl, off + j, none⟩) hlt]; exact hcell j (by omega)
  have MI := Lib.hid (fun w' hb => min_any bl off n c zs w' h0 (by omega) (by omega) (hcell' w' hb))
  have MA := Lib.hid (fun w' hb => max_any bl off n c zs w' h0 (by omega) (by omega) (hcell' w' hb))
  rw [show zs.take n = zs by rw [← hn]; exact List.take_length] at MI MA
  obtain ⟨lo, hlo⟩ : ∃ p, Lib.minOf zs = p := ⟨_, rfl⟩
  obtain ⟨hi, hhi⟩ : ∃ p, Lib.maxOf zs = p := ⟨_, rfl⟩
  rw [hlo] at MI ⊢
  rw [hhi] at MA ⊢
  clear h1 h2 h3 h4 p1 p2 hp hcell hc hm hcell' hlo hhi
  by_cases h6 : 0 ≤ lo
  case neg =>
    have d6 : decide (0 ≤ lo) = false := decide_eq_false h6
    clear h6
    go_enter Try.func47, Try.ntmps47
    go_wp2_with (go_at_call 59; (refine (MI.out _ (by (repeat' (first | (with_reducible exact Below.refl _ _) | (with_reducible refine bstep (by with_reducible assumption) ?_) | (with_reducible refine Below.alloc ?_ ?_ _) | (with_reducible refine Below.drew ?_) | (with_reducible refine below_drewN ?_ _) | (with_reducible refine Below.setCell ?_ ?_ _) | go_size)))).mono ?_; rintro e w1 ⟨rfl, rfl⟩))
    go_returns
    exact ⟨by simp [*], by (repeat' (first | (with_reducible exact Below.refl _ _) | (with_reducible refine bstep (by with_reducible assumption) ?_) | (with_reducible refine Below.alloc ?_ ?_ _) | (with_reducible refine Below.drew ?_) | (with_reducible refine below_drewN ?_ _) | (with_reducible refine Below.setCell ?_ ?_ _) | go_size))⟩
  have d6 : decide (0 ≤ lo) = true := decide_eq_true h6
  clear h6
  go_enter Try.func47, Try.ntmps47
  go_wp2_with (first
    | (go_at_call 59; (refine (MI.out _ (by (repeat' (first | (with_reducible exact Below.refl _ _) | (with_reducible refine bstep (by with_reducible assumption) ?_) | (with_reducible refine Below.alloc ?_ ?_ _) | (with_reducible refine Below.drew ?_) | (with_reducible refine below_drewN ?_ _) | (with_reducible refine Below.setCell ?_ ?_ _) | go_size)))).mono ?_; rintro e w1 ⟨rfl, rfl⟩))
    | (go_at_call 60; (refine (MA.out _ (by (repeat' (first | (with_reducible exact Below.refl _ _) | (with_reducible refine bstep (by with_reducible assumption) ?_) | (with_reducible refine Below.alloc ?_ ?_ _) | (with_reducible refine Below.drew ?_) | (with_reducible refine below_drewN ?_ _) | (with_reducible refine Below.setCell ?_ ?_ _) | go_size)))).mono ?_; rintro e w1 ⟨rfl, rfl⟩)))
  go_returns
  exact ⟨by simp [*], by (repeat' (first | (with_reducible exact Below.refl _ _) | (with_reducible refine bstep (by with_reducible assumption) ?_) | (with_reducible refine Below.alloc ?_ ?_ _) | (with_reducible refine Below.drew ?_) | (with_reducible refine below_drewN ?_ _) | (with_reducible refine Below.setCell ?_ ?_ _) | go_size))⟩
end Go.Proofs.Ytdemcleibpgglaa
