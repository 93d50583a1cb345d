/- What relievoref02.Round and relievoref09.Of answer, for a d from 1 to 2^61 and numbers within 2^61. -/
import Derived.Test.YtdemcleibpgglaaRelief
namespace Go.Proofs.Ytdemcleibpgglaa
open Go.RowKit
set_option maxRecDepth 100000
set_option linter.unusedSimpArgs false
set_option linter.unusedVariables false
theorem rround_any (n d : Int) (w : World) (h1 : 1 ≤ d) (h2 : d ≤ 2305843009213693952) (h3 : -2305843009213693952 ≤ n) (h4 : n ≤ 2305843009213693952) :
    Calls Try.prog 58 #[.int .i64 n, .int .i64 d] w fun e w' => e = .returned (.int .i64 (rnd n d)) ∧ Below w.heap.size w w' := by
  rw [rnd_go n d (by omega)]
  have ⟨q1, q2⟩ := tdiv_small n d 2305843009213693952 (by omega) h3 h4
  have m1 : n.tmod d < d := Int.tmod_lt_of_pos n (by omega)
  have m2 : -d < n.tmod d := by have := Int.lt_tmod_of_pos n (show 0 < d by omega); omega
  have c1 : decide (d < 1) = false := decide_eq_false (by omega)
  have c2 : decide (2305843009213693952 < d) = false := decide_eq_false (by omega)
  have c3 : decide (n < -2305843009213693952) = false := decide_eq_false (by omega)
  have c4 : decide (2305843009213693952 < n) = false := decide_eq_false (by omega)
  have c5 : (d == 0) = false := beq_eq_false_iff_ne.mpr (by omega)
  by_cases a : n.tmod d < 0
  · rw [if_pos a]
    have a' : decide (n.tmod d < 0) = true := decide_eq_true a
    clear a
    by_cases b : n.tmod d + d ≥ d - (n.tmod d + d)
    · rw [if_pos b]
      have b' : decide (d - (n.tmod d + d) ≤ n.tmod d + d) = true := decide_eq_true b
      clear b
      go_enter Try.func58, Try.ntmps58
      go_wp2_with fail
      go_returns
      exact ⟨by simp, by exact Below.refl _ _⟩
    · rw [if_neg b]
      have b' : decide (d - (n.tmod d + d) ≤ n.tmod d + d) = false := decide_eq_false b
      clear b
      go_enter Try.func58, Try.ntmps58
      go_wp2_with fail
      go_returns
      exact ⟨by simp, by exact Below.refl _ _⟩
  · rw [if_neg a]
    have a' : decide (n.tmod d < 0) = false := decide_eq_false a
    clear a
    by_cases b : n.tmod d ≥ d - n.tmod d
    · rw [if_pos b]
      have b' : decide (d - n.tmod d ≤ n.tmod d) = true := decide_eq_true b
      clear b
      go_enter Try.func58, Try.ntmps58
      go_wp2_with fail
      go_returns
      exact ⟨by simp, by exact Below.refl _ _⟩
    · rw [if_neg b]
      have b' : decide (d - n.tmod d ≤ n.tmod d) = false := decide_eq_false b
      clear b
      go_enter Try.func58, Try.ntmps58
      go_wp2_with fail
      go_returns
      exact ⟨by simp, by exact Below.refl _ _⟩
set_option maxHeartbeats 4000000 in
theorem rof_any (x y z d p q r : Int) (e1 : rnd x d = p) (e2 : rnd y d = q) (e3 : rnd z d = r) (h1 : 1 ≤ d) (h2 : d ≤ 2305843009213693952) (hx : -2305843009213693952 ≤ x ∧ x ≤ 2305843009213693952) (hy : -2305843009213693952 ≤ y ∧ y ≤ 2305843009213693952) (hz : -2305843009213693952 ≤ z ∧ z ≤ 2305843009213693952) (w : World) :
    Calls Try.prog 55 #[V3 x y z, .int .i64 d] w fun e w' => e = .returned (V3 p q r) ∧ Below w.heap.size w w' := by
  subst e1 e2 e3
  have R0 := fun w => rround_any x d w h1 h2 hx.1 hx.2
  have R1 := fun w => rround_any y d w h1 h2 hy.1 hy.2
  have R2 := fun w => rround_any z d w h1 h2 hz.1 hz.2
  obtain ⟨p, ep⟩ : ∃ p, rnd x d = p := ⟨_, rfl⟩
  obtain ⟨q, eq⟩ : ∃ p, rnd y d = p := ⟨_, rfl⟩
  obtain ⟨r, er⟩ : ∃ p, rnd z d = p := ⟨_, rfl⟩
  rw [ep] at R0 ⊢
  rw [eq] at R1 ⊢
  rw [er] at R2 ⊢
  have R0 := Lib.hid R0
  have R1 := Lib.hid R1
  have R2 := Lib.hid R2
  clear hx hy hz h1 h2 ep eq er
  go_enter Try.func55, Try.ntmps55
  go_wp2_with fail
  have c0 : ∀ o, ((w.alloc (.cells #[.int .i64 x, .int .i64 y, .int .i64 z] 23)).alloc (.cells #[.int .i64 0, .int .i64 0, .int .i64 0] 23)).cell? ⟨w.heap.size, o, none⟩ = (#[.int .i64 x, .int .i64 y, .int .i64 z] : Array Value)[o]? := fun o => by simp
  have z0 : ((w.alloc (.cells #[.int .i64 x, .int .i64 y, .int .i64 z] 23)).alloc (.cells #[.int .i64 0, .int .i64 0, .int .i64 0] 23)).cell? ⟨w.heap.size + 1, 0, none⟩ = some (.int .i64 0) := by simp
  have z1 : ((w.alloc (.cells #[.int .i64 x, .int .i64 y, .int .i64 z] 23)).alloc (.cells #[.int .i64 0, .int .i64 0, .int .i64 0] 23)).cell? ⟨w.heap.size + 1, 1, none⟩ = some (.int .i64 0) := by simp
  have z2 : ((w.alloc (.cells #[.int .i64 x, .int .i64 y, .int .i64 z] 23)).alloc (.cells #[.int .i64 0, .int .i64 0, .int .i64 0] 23)).cell? ⟨w.heap.size + 1, 2, none⟩ = some (.int .i64 0) := by simp
  have q0 := celq_of z0
  have q1 := celq_of z1
  have q2 := celq_of z2
  clear z0 z1 z2
  have ns : w.heap.size + 1 ≠ w.heap.size := by omega
  go_region_held3 (fun w' => (∀ o, w'.cell? ⟨w.heap.size, o, none⟩ = (#[.int .i64 x, .int .i64 y, .int .i64 z] : Array Value)[o]?) ∧
      w'.cell? ⟨w.heap.size + 1, 0, none⟩ = some (celq w' (w.heap.size + 1) 0) ∧ w'.cell? ⟨w.heap.size + 1, 1, none⟩ = some (celq w' (w.heap.size + 1) 1) ∧ w'.cell? ⟨w.heap.size + 1, 2, none⟩ = some (celq w' (w.heap.size + 1) 2) ∧ (∀ o, w'.frozen? ⟨w.heap.size + 1, o, none⟩ = false) ∧ w.heap.size + 1 < w'.heap.size)
    (((first | (go_split_ands; skip) | skip); (repeat' apply And.intro) <;> (first | assumption | (with_reducible exact blk_drew (by assumption)) | (with_reducible exact blk_later (by simp) (by assumption) (by assumption)) | (with_reducible exact celq_later (by assumption) (by assumption)) | (with_reducible exact celq_0 (by assumption)) | (with_reducible exact celq_1 (by assumption)) | (with_reducible exact celq_2 (by assumption)) | (with_reducible exact fro_call (by assumption) (by assumption) (by omega)) | (with_reducible exact s3_blk (by assumption) (by assumption)) | omega | (simp [*, go_sem]; done) | (intro o; simp [*]; done))))
    (first
      | (go_at_call 58; ((with_reducible refine (R0.out _).mono ?_); rintro e v1 ⟨rfl, hb1⟩; have hs1 := hb1.size))
      | (go_at_call 58; ((with_reducible refine (R1.out _).mono ?_); rintro e v2 ⟨rfl, hb2⟩; have hs2 := hb2.size))
      | (go_at_call 58; ((with_reducible refine (R2.out _).mono ?_); rintro e v3 ⟨rfl, hb3⟩; have hs3 := hb3.size)))
  all_goals
    go_wp2_with fail
    have y0 := cell_later hb3 (cell_later hb2 (cell_later hb1 (cell_drew q0)))
    have y1 := cell_later hb3 (cell_later hb2 (cell_later hb1 (cell_drew q1)))
    have y2 := cell_later hb3 (cell_later hb2 (cell_later hb1 (cell_drew q2)))
    have k0 := s3_0 (u := .int .i64 p) (v := .int .i64 q) (x := .int .i64 r) y0
    have k1 := s3_1 (u := .int .i64 p) (v := .int .i64 q) (x := .int .i64 r) y1
    have k2 := s3_2 (u := .int .i64 p) (v := .int .i64 q) (x := .int .i64 r) y2
    refine bodyPost_ret (v := V3 p q r) (by simp [results, Try.results55, go_sem, k0, k1, k2]) rfl ?_
    exact ⟨rfl, by (repeat' (first | (with_reducible exact Below.refl _ _) | (with_reducible refine bstep (by with_reducible assumption) ?_) | (with_reducible refine Below.alloc ?_ ?_ _) | (with_reducible refine Below.drew ?_) | (with_reducible refine below_drewN ?_ _) | (with_reducible refine Below.setCell ?_ ?_ _) | go_size))⟩
end Go.Proofs.Ytdemcleibpgglaa
