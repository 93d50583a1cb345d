/- What relievoref14.Blend answers, for all directions and numbers of 64 bits. -/
import Derived.Test.YtdemcleibpgglaaRef11
import Derived.Test.YtdemcleibpgglaaBlend
namespace Go.Proofs.Ytdemcleibpgglaa
open Go.RowKit
set_option maxRecDepth 100000
set_option linter.unusedSimpArgs false
set_option linter.unusedVariables false
theorem within0_is {x y z m : Int} {b : Bool} (h : inB x y z m = b) : ∀ w, Calls Try.prog 54 #[V3 x y z, .int .i64 m] w fun e w' => e = .returned (.bool b) ∧ Below w.heap.size w w' := by
  subst h; exact within0_any x y z m
theorem radd_sm (x y z a b c p q r : Int) (e1 : x + a = p) (e2 : y + b = q) (e3 : z + c = r) (h1 : -1152921504606846976 ≤ p ∧ p ≤ 1152921504606846976) (h2 : -1152921504606846976 ≤ q ∧ q ≤ 1152921504606846976) (h3 : -1152921504606846976 ≤ r ∧ r ≤ 1152921504606846976) (w : World) :
    Calls Try.prog 19 #[V3 x y z, V3 a b c] w fun e w' => e = .returned (V3 p q r) ∧ Below w.heap.size w w' := by
  subst e1 e2 e3; exact radd_b x y z a b c h1 h2 h3 w
set_option maxHeartbeats 2000000 in
theorem rblend_yes (x y z x' y' z' i n : Int) (hok : blok x y z x' y' z' i n = true) (w : World) :
    Calls Try.prog 35 #[V3 x y z, V3 x' y' z', .int .i64 i, .int .i64 n] w fun e w' => e = .returned (.tuple #[V3 (blv true x x' i n) (blv true y y' i n) (blv true z z' i n), .bool true]) ∧ Below w.heap.size w w' := by
  simp only [blok, Bool.and_eq_true] at hok
  obtain ⟨⟨hi, ha⟩, hb⟩ := hok
  have WA := Lib.hid (within0_is ha)
  have WB := Lib.hid (within0_is hb)
  rw [there_iff] at hi
  obtain ⟨h1, h2, h3, h4⟩ := hi
  rw [inB_iff (by omega) (by omega)] at ha hb
  have ⟨u0, v0, _⟩ := bl_le h1 h2 h3 h4 ha.1 hb.1
  have ⟨u1, v1, _⟩ := bl_le h1 h2 h3 h4 ha.2.1 hb.2.1
  have ⟨u2, v2, _⟩ := bl_le h1 h2 h3 h4 ha.2.2 hb.2.2
  have c1 : decide (n < 1) = false := decide_eq_false (by omega)
  have c2 : decide (16 < n) = false := decide_eq_false (by omega)
  have c3 : decide (i < 0) = false := decide_eq_false (by omega)
  have c4 : decide (n < i) = false := decide_eq_false (by omega)
  unfold blv
  simp only [if_true]
  obtain ⟨a0, e0⟩ : ∃ p, x * (n - i) = p := ⟨_, rfl⟩
  obtain ⟨a1, e1⟩ : ∃ p, y * (n - i) = p := ⟨_, rfl⟩
  obtain ⟨a2, e2⟩ : ∃ p, z * (n - i) = p := ⟨_, rfl⟩
  obtain ⟨b0, f0⟩ : ∃ p, x' * i = p := ⟨_, rfl⟩
  obtain ⟨b1, f1⟩ : ∃ p, y' * i = p := ⟨_, rfl⟩
  obtain ⟨b2, f2⟩ : ∃ p, z' * i = p := ⟨_, rfl⟩
  obtain ⟨k, hk⟩ : ∃ k, n - i = k := ⟨_, rfl⟩
  rw [hk] at e0 e1 e2
  rw [hk, e0] at u0
  rw [hk, e1] at u1
  rw [hk, e2] at u2
  rw [f0] at v0
  rw [f1] at v1
  rw [f2] at v2
  rw [hk, e0, e1, e2, f0, f1, f2]
  have m0 : IntKind.i64.wrap (n - i) = k := by rw [hk]; exact IntWalk.i64_in _ (by omega)
  have m1 : wrap64 (n - i) = k := by rw [hk]; exact w64 (by omega) (by omega)
  have SA := Lib.hid (rscale_b x y z k a0 a1 a2 e0 e1 e2 (by omega) (by omega) (by omega))
  have SB := Lib.hid (rscale_b x' y' z' i b0 b1 b2 f0 f1 f2 (by omega) (by omega) (by omega))
  obtain ⟨s0, g0⟩ : ∃ p, a0 + b0 = p := ⟨_, rfl⟩
  obtain ⟨s1, g1⟩ : ∃ p, a1 + b1 = p := ⟨_, rfl⟩
  obtain ⟨s2, g2⟩ : ∃ p, a2 + b2 = p := ⟨_, rfl⟩
  have AD := Lib.hid (radd_sm a0 a1 a2 b0 b1 b2 s0 s1 s2 g0 g1 g2 (by omega) (by omega) (by omega))
  rw [g0, g1, g2]
  obtain ⟨p, ep⟩ : ∃ p, rnd s0 n = p := ⟨_, rfl⟩
  obtain ⟨q, eq⟩ : ∃ p, rnd s1 n = p := ⟨_, rfl⟩
  obtain ⟨r, er⟩ : ∃ p, rnd s2 n = p := ⟨_, rfl⟩
  have OF := Lib.hid (rof_any s0 s1 s2 n p q r ep eq er h1 (by omega) (by omega) (by omega) (by omega))
  rw [ep, eq, er]
  clear h1 h2 h3 h4 ha hb u0 v0 u1 v1 u2 v2 e0 e1 e2 f0 f1 f2 g0 g1 g2 ep eq er hk
  go_enter Try.func35, Try.ntmps35
  go_wp2_with (first
    | (go_at_call 54; ((with_reducible refine (WA.out _).mono ?_); rintro e v1 ⟨rfl, hb1⟩; have A1 : ∀ o, v1.cell? ⟨w.heap.size, o, none⟩ = (#[.int .i64 x, .int .i64 y, .int .i64 z] : Array Value)[o]? := blk_later (by simp) hb1 (by (repeat (first | (with_reducible assumption) | (focus ((with_reducible refine new_at ?_ _ _); (repeat (first | (with_reducible rfl) | (with_reducible refine sz1 ?_))); done)) | (with_reducible refine blk_alloc (by simp) _ ?_) | (with_reducible refine blk_drew ?_)))); have B1 : ∀ o, v1.cell? ⟨w.heap.size + 1, o, none⟩ = (#[.int .i64 x', .int .i64 y', .int .i64 z'] : Array Value)[o]? := blk_later (by simp) hb1 (by (repeat (first | (with_reducible assumption) | (focus ((with_reducible refine new_at ?_ _ _); (repeat (first | (with_reducible rfl) | (with_reducible refine sz1 ?_))); done)) | (with_reducible refine blk_alloc (by simp) _ ?_) | (with_reducible refine blk_drew ?_)))); have Z1 : ∀ o, v1.cell? ⟨w.heap.size + 1 + 1, o, none⟩ = (#[.int .i64 0, .int .i64 0, .int .i64 0] : Array Value)[o]? := blk_later (by simp) hb1 (by (repeat (first | (with_reducible assumption) | (focus ((with_reducible refine new_at ?_ _ _); (repeat (first | (with_reducible rfl) | (with_reducible refine sz1 ?_))); done)) | (with_reducible refine blk_alloc (by simp) _ ?_) | (with_reducible refine blk_drew ?_)))); have F1 : ∀ o, v1.frozen? ⟨w.heap.size + 1 + 1, o, none⟩ = false := fro_call hb1 (by (repeat (first | (with_reducible assumption) | (focus ((with_reducible refine fro_new ?_ _ _); (repeat (first | (with_reducible rfl) | (with_reducible refine sz1 ?_))); done)) | ((with_reducible refine fro_more ?_ _ ?_); (repeat (first | (with_reducible assumption) | (focus ((with_reducible refine lt_new ?_); (repeat (first | (with_reducible rfl) | (with_reducible refine sz1 ?_))); done)) | (with_reducible refine lt_here ?_))))))) (by (repeat (first | (with_reducible assumption) | (focus ((with_reducible refine lt_new ?_); (repeat (first | (with_reducible rfl) | (with_reducible refine sz1 ?_))); done)) | (with_reducible refine lt_here ?_))))))
    | (go_at_call 54; ((with_reducible refine (WB.out _).mono ?_); rintro e v2 ⟨rfl, hb2⟩; have A2 := blk_later (by simp) hb2 A1; have B2 := blk_later (by simp) hb2 B1; have Z2 := blk_later (by simp) hb2 Z1; have F2 := fro_call hb2 F1 (blk_lt (by simp) Z1); have hl2 : w.heap.size + 1 + 1 < v2.heap.size := blk_lt (by simp) Z2)))
  have q0 := celq_of (Z2 0)
  have q1 := celq_of (Z2 1)
  have q2 := celq_of (Z2 2)
  have n0 : w.heap.size + 1 + 1 ≠ w.heap.size := by omega
  have n1 : w.heap.size + 1 + 1 ≠ w.heap.size + 1 := by omega
  clear A1 B1 Z1 F1
  go_region_held3 (fun w' => (∀ o, w'.cell? ⟨w.heap.size, o, none⟩ = (#[.int .i64 x, .int .i64 y, .int .i64 z] : Array Value)[o]?) ∧ (∀ o, w'.cell? ⟨w.heap.size + 1, o, none⟩ = (#[.int .i64 x', .int .i64 y', .int .i64 z'] : Array Value)[o]?) ∧
      w'.cell? ⟨w.heap.size + 1 + 1, 0, none⟩ = some (celq w' (w.heap.size + 1 + 1) 0) ∧ w'.cell? ⟨w.heap.size + 1 + 1, 1, none⟩ = some (celq w' (w.heap.size + 1 + 1) 1) ∧ w'.cell? ⟨w.heap.size + 1 + 1, 2, none⟩ = some (celq w' (w.heap.size + 1 + 1) 2) ∧ (∀ o, w'.frozen? ⟨w.heap.size + 1 + 1, o, none⟩ = false) ∧ w.heap.size + 1 + 1 < w'.heap.size)
    (((first | (go_split_ands; skip) | skip); (repeat' apply And.intro) <;> (first | assumption | (with_reducible exact blk_drew (by assumption)) | (with_reducible exact blk_later (by simp) (by assumption) (by assumption)) | (with_reducible exact celq_later (by assumption) (by assumption)) | (with_reducible exact celq_0 (by assumption)) | (with_reducible exact celq_1 (by assumption)) | (with_reducible exact celq_2 (by assumption)) | (with_reducible exact fro_call (by assumption) (by assumption) (by omega)) | (with_reducible exact s3_blk (by assumption) (by assumption)) | omega | (simp [*, go_sem]; done) | (intro o; simp [*]; done))))
    (first
      | (go_at_call 24; ((with_reducible refine (SA.out _).mono ?_); rintro e v3 ⟨rfl, hb3⟩; have hs3 := hb3.size))
      | (go_at_call 24; ((with_reducible refine (SB.out _).mono ?_); rintro e v4 ⟨rfl, hb4⟩; have hs4 := hb4.size))
      | (go_at_call 19; ((with_reducible refine (AD.out _).mono ?_); rintro e v5 ⟨rfl, hb5⟩; have hs5 := hb5.size))
      | (go_at_call 55; ((with_reducible refine (OF.out _).mono ?_); rintro e v6 ⟨rfl, hb6⟩; have hs6 := hb6.size)))
  all_goals
    go_wp2_with fail
    have y0 := cell_later hb6 (cell_later hb5 (cell_later hb4 (cell_later hb3 (cell_drew q0))))
    have y1 := cell_later hb6 (cell_later hb5 (cell_later hb4 (cell_later hb3 (cell_drew q1))))
    have y2 := cell_later hb6 (cell_later hb5 (cell_later hb4 (cell_later hb3 (cell_drew q2))))
    have k0 := s3_0 (u := .int .i64 p) (v := .int .i64 q) (x := .int .i64 r) y0
    have k1 := s3_1 (u := .int .i64 p) (v := .int .i64 q) (x := .int .i64 r) y1
    have k2 := s3_2 (u := .int .i64 p) (v := .int .i64 q) (x := .int .i64 r) y2
    refine bodyPost_ret (v := .tuple #[V3 p q r, .bool true]) (by simp [results, Try.results35, go_sem, k0, k1, k2]) rfl ?_
    exact ⟨rfl, by (repeat' (first | (with_reducible exact Below.refl _ _) | (with_reducible refine bstep (by with_reducible assumption) ?_) | (with_reducible refine Below.alloc ?_ ?_ _) | (with_reducible refine Below.drew ?_) | (with_reducible refine below_drewN ?_ _) | (with_reducible refine Below.setCell ?_ ?_ _) | go_size))⟩
/-- No blend: the zero direction, and false. -/
theorem rblend_no (x y z x' y' z' i n : Int) (hok : blok x y z x' y' z' i n = false) (w : World) :
    Calls Try.prog 35 #[V3 x y z, V3 x' y' z', .int .i64 i, .int .i64 n] w fun e w' => e = .returned (.tuple #[V3 0 0 0, .bool false]) ∧ Below w.heap.size w w' := by
  by_cases a1 : n < 1
  · have d0 : decide (n < 1) = true := decide_eq_true a1
    clear hok a1
    go_enter Try.func35, Try.ntmps35
    go_wp2
    go_returns
    exact ⟨by simp, by go_grown⟩
  have d0 : decide (n < 1) = false := decide_eq_false a1
  by_cases a2 : 16 < n
  · have d1 : decide (16 < n) = true := decide_eq_true a2
    clear hok a1 a2
    go_enter Try.func35, Try.ntmps35
    go_wp2
    go_returns
    exact ⟨by simp, by go_grown⟩
  have d1 : decide (16 < n) = false := decide_eq_false a2
  by_cases a3 : i < 0
  · have d2 : decide (i < 0) = true := decide_eq_true a3
    clear hok a1 a2 a3
    go_enter Try.func35, Try.ntmps35
    go_wp2
    go_returns
    exact ⟨by simp, by go_grown⟩
  have d2 : decide (i < 0) = false := decide_eq_false a3
  by_cases a4 : n < i
  · have d3 : decide (n < i) = true := decide_eq_true a4
    clear hok a1 a2 a3 a4
    go_enter Try.func35, Try.ntmps35
    go_wp2
    go_returns
    exact ⟨by simp, by go_grown⟩
  have d3 : decide (n < i) = false := decide_eq_false a4
  have hi : there i n = true := by rw [there_iff]; omega
  rw [blok, hi, Bool.true_and] at hok
  clear a1 a2 a3 a4 hi
  cases ha : inB x y z 1023
  · have WA := Lib.hid (within0_is ha)
    clear hok ha
    go_enter Try.func35, Try.ntmps35
    go_wp2_with (go_at_call 54; ((with_reducible refine (WA.out _).mono ?_); rintro e v1 ⟨rfl, hb1⟩; have Z1 : ∀ o, v1.cell? ⟨w.heap.size + 1 + 1, o, none⟩ = (#[.int .i64 0, .int .i64 0, .int .i64 0] : Array Value)[o]? := blk_later (by simp) hb1 (by (repeat (first | (with_reducible assumption) | (focus ((with_reducible refine new_at ?_ _ _); (repeat (first | (with_reducible rfl) | (with_reducible refine sz1 ?_))); done)) | (with_reducible refine blk_alloc (by simp) _ ?_) | (with_reducible refine blk_drew ?_)))); have F1 : ∀ o, v1.frozen? ⟨w.heap.size + 1 + 1, o, none⟩ = false := fro_call hb1 (by (repeat (first | (with_reducible assumption) | (focus ((with_reducible refine fro_new ?_ _ _); (repeat (first | (with_reducible rfl) | (with_reducible refine sz1 ?_))); done)) | ((with_reducible refine fro_more ?_ _ ?_); (repeat (first | (with_reducible assumption) | (focus ((with_reducible refine lt_new ?_); (repeat (first | (with_reducible rfl) | (with_reducible refine sz1 ?_))); done)) | (with_reducible refine lt_here ?_))))))) (by (repeat (first | (with_reducible assumption) | (focus ((with_reducible refine lt_new ?_); (repeat (first | (with_reducible rfl) | (with_reducible refine sz1 ?_))); done)) | (with_reducible refine lt_here ?_)))); have hl : w.heap.size + 1 + 1 < v1.heap.size := blk_lt (by simp) Z1))
    have k0 := s3_0 (u := .int .i64 0) (v := .int .i64 0) (x := .int .i64 0) (Z1 0)
    have k1 := s3_1 (u := .int .i64 0) (v := .int .i64 0) (x := .int .i64 0) (Z1 1)
    have k2 := s3_2 (u := .int .i64 0) (v := .int .i64 0) (x := .int .i64 0) (Z1 2)
    refine bodyPost_ret (v := .tuple #[V3 0 0 0, .bool false]) (by simp [results, Try.results35, go_sem, k0, k1, k2]) rfl ?_
    exact ⟨rfl, by (repeat' (first | (with_reducible exact Below.refl _ _) | (with_reducible refine bstep (by with_reducible assumption) ?_) | (with_reducible refine Below.alloc ?_ ?_ _) | (with_reducible refine Below.drew ?_) | (with_reducible refine below_drewN ?_ _) | (with_reducible refine Below.setCell ?_ ?_ _) | go_size))⟩
  · have hb : inB x' y' z' 1023 = false := by simpa [ha] using hok
    have WA := Lib.hid (within0_is ha)
    have WB := Lib.hid (within0_is hb)
    clear hok ha hb
    go_enter Try.func35, Try.ntmps35
    go_wp2_with (first
      | (go_at_call 54; ((with_reducible refine (WA.out _).mono ?_); rintro e v1 ⟨rfl, hb1⟩; have B1 : ∀ o, v1.cell? ⟨w.heap.size + 1, o, none⟩ = (#[.int .i64 x', .int .i64 y', .int .i64 z'] : Array Value)[o]? := blk_later (by simp) hb1 (by (repeat (first | (with_reducible assumption) | (focus ((with_reducible refine new_at ?_ _ _); (repeat (first | (with_reducible rfl) | (with_reducible refine sz1 ?_))); done)) | (with_reducible refine blk_alloc (by simp) _ ?_) | (with_reducible refine blk_drew ?_)))); have Z1 : ∀ o, v1.cell? ⟨w.heap.size + 1 + 1, o, none⟩ = (#[.int .i64 0, .int .i64 0, .int .i64 0] : Array Value)[o]? := blk_later (by simp) hb1 (by (repeat (first | (with_reducible assumption) | (focus ((with_reducible refine new_at ?_ _ _); (repeat (first | (with_reducible rfl) | (with_reducible refine sz1 ?_))); done)) | (with_reducible refine blk_alloc (by simp) _ ?_) | (with_reducible refine blk_drew ?_)))); have F1 : ∀ o, v1.frozen? ⟨w.heap.size + 1 + 1, o, none⟩ = false := fro_call hb1 (by (repeat (first | (with_reducible assumption) | (focus ((with_reducible refine fro_new ?_ _ _); (repeat (first | (with_reducible rfl) | (with_reducible refine sz1 ?_))); done)) | ((with_reducible refine fro_more ?_ _ ?_); (repeat (first | (with_reducible assumption) | (focus ((with_reducible refine lt_new ?_); (repeat (first | (with_reducible rfl) | (with_reducible refine sz1 ?_))); done)) | (with_reducible refine lt_here ?_))))))) (by (repeat (first | (with_reducible assumption) | (focus ((with_reducible refine lt_new ?_); (repeat (first | (with_reducible rfl) | (with_reducible refine sz1 ?_))); done)) | (with_reducible refine lt_here ?_))))))
      | (go_at_call 54; ((with_reducible refine (WB.out _).mono ?_); rintro e v2 ⟨rfl, hb2⟩; have Z2 := blk_later (by simp) hb2 Z1; have F2 := fro_call hb2 F1 (blk_lt (by simp) Z1); have hl : w.heap.size + 1 + 1 < v2.heap.size := blk_lt (by simp) Z2; clear Z1 F1)))
    have k0 := s3_0 (u := .int .i64 0) (v := .int .i64 0) (x := .int .i64 0) (Z2 0)
    have k1 := s3_1 (u := .int .i64 0) (v := .int .i64 0) (x := .int .i64 0) (Z2 1)
    have k2 := s3_2 (u := .int .i64 0) (v := .int .i64 0) (x := .int .i64 0) (Z2 2)
    refine bodyPost_ret (v := .tuple #[V3 0 0 0, .bool false]) (by simp [results, Try.results35, go_sem, k0, k1, k2]) rfl ?_
    exact ⟨rfl, by (repeat' (first | (with_reducible exact Below.refl _ _) | (with_reducible refine bstep (by with_reducible assumption) ?_) | (with_reducible refine Below.alloc ?_ ?_ _) | (with_reducible refine Below.drew ?_) | (with_reducible refine below_drewN ?_ _) | (with_reducible refine Below.setCell ?_ ?_ _) | go_size))⟩
/-- Each blend. -/
theorem rblend_is (x y z x' y' z' i n : Int) (ok : Bool) (p q r : Int) (hok : blok x y z x' y' z' i n = ok) (e0 : blv ok x x' i n = p) (e1 : blv ok y y' i n = q) (e2 : blv ok z z' i n = r) (w : World) :
    Calls Try.prog 35 #[V3 x y z, V3 x' y' z', .int .i64 i, .int .i64 n] w fun e w' => e = .returned (.tuple #[V3 p q r, .bool ok]) ∧ Below w.heap.size w w' := by
  subst e0 e1 e2
  cases ok
  · exact rblend_no x y z x' y' z' i n hok w
  · exact rblend_yes x y z x' y' z' i n hok w
end Go.Proofs.Ytdemcleibpgglaa
