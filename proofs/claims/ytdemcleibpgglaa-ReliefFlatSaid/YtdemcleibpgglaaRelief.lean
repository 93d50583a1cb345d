/- What package relief answers of directions and points: contracts of of, Blend, Mix and Lift, for all numbers of 64 bits. -/
import Derived.Test.YtdemcleibpgglaaReliefPlain
import Derived.Test.YtdemcleibpgglaaHeld
namespace Go.Proofs.Ytdemcleibpgglaa
open Go.RowKit
set_option maxRecDepth 100000
set_option linter.unusedSimpArgs false
set_option linter.unusedVariables false
theorem within_is {x y z m : Int} {b : Bool} (h : inB x y z m = b) : ∀ w, Calls Try.prog 18 #[V3 x y z, .int .i64 m] w fun e w' => e = .returned (.bool b) ∧ Below w.heap.size w w' := by
  intro w; have := within_any x y z m w; rw [h] at this; exact this
set_option maxHeartbeats 2000000 in
theorem of_any (x y z d p q r : Int) (e1 : rnd x d = p) (e2 : rnd y d = q) (e3 : rnd z d = r) (h1 : 1 ≤ d) (h2 : d ≤ 2305843009213693952) (hx : -2305843009213693952 ≤ x ∧ x ≤ 2305843009213693952) (hy : -2305843009213693952 ≤ y ∧ y ≤ 2305843009213693952) (hz : -2305843009213693952 ≤ z ∧ z ≤ 2305843009213693952) (w : World) :
    Calls Try.prog 45 #[V3 x y z, .int .i64 d] w fun e w' => e = .returned (V3 p q r) ∧ Below w.heap.size w w' := by
  subst e1 e2 e3
  have R0 := fun w => round_any x d w h1 h2 hx.1 hx.2
  have R1 := fun w => round_any y d w h1 h2 hy.1 hy.2
  have R2 := fun w => round_any z d w h1 h2 hz.1 hz.2
  obtain ⟨p, ep⟩ : ∃ p, rnd x d = p := ⟨_, rfl⟩
  obtain ⟨q, eq⟩ : ∃ p, rnd y d = p := ⟨_, rfl⟩
  obtain ⟨r, er⟩ : ∃ p, rnd z d = p := ⟨_, rfl⟩
  rw [ep] at R0 ⊢
  rw [eq] at R1 ⊢
  rw [er] at R2 ⊢
  have R0 := Lib.hid R0
  have R1 := Lib.hid R1
  have R2 := Lib.hid R2
  clear hx hy hz h1 h2 ep eq er
  go_enter Try.func45, Try.ntmps45
  go_wp2_with fail
  have c0 : ∀ o, ((w.alloc (.cells #[.int .i64 x, .int .i64 y, .int .i64 z] 23)).alloc (.cells #[.int .i64 0, .int .i64 0, .int .i64 0] 23)).cell? ⟨w.heap.size, o, none⟩ = (#[.int .i64 x, .int .i64 y, .int .i64 z] : Array Value)[o]? := fun o => by simp
  have z0 : ((w.alloc (.cells #[.int .i64 x, .int .i64 y, .int .i64 z] 23)).alloc (.cells #[.int .i64 0, .int .i64 0, .int .i64 0] 23)).cell? ⟨w.heap.size + 1, 0, none⟩ = some (.int .i64 0) := by simp
  have z1 : ((w.alloc (.cells #[.int .i64 x, .int .i64 y, .int .i64 z] 23)).alloc (.cells #[.int .i64 0, .int .i64 0, .int .i64 0] 23)).cell? ⟨w.heap.size + 1, 1, none⟩ = some (.int .i64 0) := by simp
  have z2 : ((w.alloc (.cells #[.int .i64 x, .int .i64 y, .int .i64 z] 23)).alloc (.cells #[.int .i64 0, .int .i64 0, .int .i64 0] 23)).cell? ⟨w.heap.size + 1, 2, none⟩ = some (.int .i64 0) := by simp
  have q0 := celq_of z0
  have q1 := celq_of z1
  have q2 := celq_of z2
  clear z0 z1 z2
  have ns : w.heap.size + 1 ≠ w.heap.size := by omega
  go_region_held3 (fun w' => (∀ o, w'.cell? ⟨w.heap.size, o, none⟩ = (#[.int .i64 x, .int .i64 y, .int .i64 z] : Array Value)[o]?) ∧
      w'.cell? ⟨w.heap.size + 1, 0, none⟩ = some (celq w' (w.heap.size + 1) 0) ∧ w'.cell? ⟨w.heap.size + 1, 1, none⟩ = some (celq w' (w.heap.size + 1) 1) ∧ w'.cell? ⟨w.heap.size + 1, 2, none⟩ = some (celq w' (w.heap.size + 1) 2) ∧ (∀ o, w'.frozen? ⟨w.heap.size + 1, o, none⟩ = false) ∧ w.heap.size + 1 < w'.heap.size)
    (((first | (go_split_ands; skip) | skip); (repeat' apply And.intro) <;> (first | assumption | (with_reducible exact blk_drew (by assumption)) | (with_reducible exact blk_later (by simp) (by assumption) (by assumption)) | (with_reducible exact celq_later (by assumption) (by assumption)) | (with_reducible exact celq_0 (by assumption)) | (with_reducible exact celq_1 (by assumption)) | (with_reducible exact celq_2 (by assumption)) | (with_reducible exact fro_call (by assumption) (by assumption) (by omega)) | (with_reducible exact s3_blk (by assumption) (by assumption)) | omega | (simp [*, go_sem]; done) | (intro o; simp [*]; done))))
    (first
      | (go_at_call 43; ((with_reducible refine (R0.out _).mono ?_); rintro e v1 ⟨rfl, hb1⟩; have hs1 := hb1.size))
      | (go_at_call 43; ((with_reducible refine (R1.out _).mono ?_); rintro e v2 ⟨rfl, hb2⟩; have hs2 := hb2.size))
      | (go_at_call 43; ((with_reducible refine (R2.out _).mono ?_); rintro e v3 ⟨rfl, hb3⟩; have hs3 := hb3.size)))
  all_goals
    go_wp2_with fail
    have y0 := cell_later hb3 (cell_later hb2 (cell_later hb1 (cell_drew q0)))
    have y1 := cell_later hb3 (cell_later hb2 (cell_later hb1 (cell_drew q1)))
    have y2 := cell_later hb3 (cell_later hb2 (cell_later hb1 (cell_drew q2)))
    have k0 := s3_0 (u := .int .i64 p) (v := .int .i64 q) (x := .int .i64 r) y0
    have k1 := s3_1 (u := .int .i64 p) (v := .int .i64 q) (x := .int .i64 r) y1
    have k2 := s3_2 (u := .int .i64 p) (v := .int .i64 q) (x := .int .i64 r) y2
    refine bodyPost_ret (v := V3 p q r) (by simp [results, Try.results45, go_sem, k0, k1, k2]) rfl ?_
    exact ⟨rfl, by (repeat' (first | (with_reducible exact Below.refl _ _) | (with_reducible refine bstep (by with_reducible assumption) ?_) | (with_reducible refine Below.alloc ?_ ?_ _) | (with_reducible refine Below.drew ?_) | (with_reducible refine below_drewN ?_ _) | (with_reducible refine Below.setCell ?_ ?_ _) | go_size))⟩
end Go.Proofs.Ytdemcleibpgglaa
