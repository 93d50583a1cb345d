/- What relief.Lift answers: a contract, for all numbers of 64 bits. -/
import Derived.Test.YtdemcleibpgglaaRelief
import Derived.IntWalk
namespace Go.Proofs.Ytdemcleibpgglaa
open Go.RowKit
set_option maxRecDepth 100000
set_option linter.unusedSimpArgs false
set_option linter.unusedVariables false
set_option maxHeartbeats 2000000 in
theorem lift_yes (x y z a b c t h : Int) (hok : lfok x y z a b c t h = true) (w : World) :
    Calls Try.prog 21 #[V3 x y z, V3 a b c, .int .i64 t, .int .i64 h] w fun e w' => e = .returned (.tuple #[V3 (lfv true x a t h) (lfv true y b t h) (lfv true z c t h), .bool true]) ∧ Below w.heap.size w w' := by
  simp only [lfok, Bool.and_eq_true, decide_eq_true_eq] at hok
  obtain ⟨⟨⟨hp, hn⟩, m0⟩, m1⟩ := hok
  have WA := Lib.hid (within_is hp)
  have WB := Lib.hid (within_is hn)
  have c1 : decide (mn t h < 0) = false := decide_eq_false (by omega)
  have c2 : decide (255 < mx t h) = false := decide_eq_false (by omega)
  rw [le_mn] at m0
  rw [mx_le] at m1
  rw [inB_iff (by omega) (by omega)] at hp hn
  have ⟨⟨l3, l4⟩, l1, l2⟩ := lfh_le m0.1 m1.1 m0.2 m1.2
  have RD := fun w => round_any (t * h) 255 w (by omega) (by omega) (by omega) (by omega)
  rw [show rnd (t * h) 255 = lfh t h from rfl] at RD
  unfold lfv
  simp only [if_true]
  obtain ⟨k, ek⟩ : ∃ k, lfh t h = k := ⟨_, rfl⟩
  rw [ek] at RD l1 l2 ⊢
  have ⟨u0, v0⟩ := lfv_le hn.1 l1
  have ⟨u1, v1⟩ := lfv_le hn.2.1 l1
  have ⟨u2, v2⟩ := lfv_le hn.2.2 l1
  obtain ⟨th, eth⟩ : ∃ k, t * h = k := ⟨_, rfl⟩
  rw [eth] at RD l3 l4
  have RD := Lib.hid RD
  have n0 : IntKind.i64.wrap (t * h) = th := by rw [eth]; exact IntWalk.i64_in _ (by omega)
  have n1 : wrap64 (t * h) = th := by rw [eth]; exact w64 (by omega) (by omega)
  obtain ⟨a0, e0⟩ : ∃ p, a * k = p := ⟨_, rfl⟩
  obtain ⟨a1, e1⟩ : ∃ p, b * k = p := ⟨_, rfl⟩
  obtain ⟨a2, e2⟩ : ∃ p, c * k = p := ⟨_, rfl⟩
  rw [e0] at u0 v0
  rw [e1] at u1 v1
  rw [e2] at u2 v2
  rw [e0, e1, e2]
  have SA := Lib.hid (scale_sm a b c k a0 a1 a2 e0 e1 e2 (by omega) (by omega) (by omega))
  obtain ⟨p, ep⟩ : ∃ p, rnd a0 1024 = p := ⟨_, rfl⟩
  obtain ⟨q, eq⟩ : ∃ p, rnd a1 1024 = p := ⟨_, rfl⟩
  obtain ⟨r, er⟩ : ∃ p, rnd a2 1024 = p := ⟨_, rfl⟩
  have OF := Lib.hid (of_any a0 a1 a2 1024 p q r ep eq er (by omega) (by omega) (by omega) (by omega) (by omega))
  rw [ep] at v0 ⊢
  rw [eq] at v1 ⊢
  rw [er] at v2 ⊢
  obtain ⟨s0, g0⟩ : ∃ s, x + p = s := ⟨_, rfl⟩
  obtain ⟨s1, g1⟩ : ∃ s, y + q = s := ⟨_, rfl⟩
  obtain ⟨s2, g2⟩ : ∃ s, z + r = s := ⟨_, rfl⟩
  have AD := Lib.hid (add_sm x y z p q r s0 s1 s2 g0 g1 g2 (by omega) (by omega) (by omega))
  rw [g0, g1, g2]
  clear hp hn m0 m1 l1 l2 l3 l4 u0 u1 u2 v0 v1 v2 e0 e1 e2 g0 g1 g2 ep eq er ek eth
  go_enter Try.func21, Try.ntmps21
  go_wp2_with (first
    | (go_at_call 18; ((with_reducible refine (WA.out _).mono ?_); rintro e v1 ⟨rfl, hb1⟩; have A1 : ∀ o, v1.cell? ⟨w.heap.size, o, none⟩ = (#[.int .i64 x, .int .i64 y, .int .i64 z] : Array Value)[o]? := blk_later (by simp) hb1 (by (repeat (first | (with_reducible assumption) | (focus ((with_reducible refine new_at ?_ _ _); (repeat (first | (with_reducible rfl) | (with_reducible refine sz1 ?_))); done)) | (with_reducible refine blk_alloc (by simp) _ ?_) | (with_reducible refine blk_drew ?_)))); have B1 : ∀ o, v1.cell? ⟨w.heap.size + 1, o, none⟩ = (#[.int .i64 a, .int .i64 b, .int .i64 c] : Array Value)[o]? := blk_later (by simp) hb1 (by (repeat (first | (with_reducible assumption) | (focus ((with_reducible refine new_at ?_ _ _); (repeat (first | (with_reducible rfl) | (with_reducible refine sz1 ?_))); done)) | (with_reducible refine blk_alloc (by simp) _ ?_) | (with_reducible refine blk_drew ?_)))); have Z1 : ∀ o, v1.cell? ⟨w.heap.size + 1 + 1, o, none⟩ = (#[.int .i64 0, .int .i64 0, .int .i64 0] : Array Value)[o]? := blk_later (by simp) hb1 (by (repeat (first | (with_reducible assumption) | (focus ((with_reducible refine new_at ?_ _ _); (repeat (first | (with_reducible rfl) | (with_reducible refine sz1 ?_))); done)) | (with_reducible refine blk_alloc (by simp) _ ?_) | (with_reducible refine blk_drew ?_)))); have F1 : ∀ o, v1.frozen? ⟨w.heap.size + 1 + 1, o, none⟩ = false := fro_call hb1 (by (repeat (first | (with_reducible assumption) | (focus ((with_reducible refine fro_new ?_ _ _); (repeat (first | (with_reducible rfl) | (with_reducible refine sz1 ?_))); done)) | ((with_reducible refine fro_more ?_ _ ?_); (repeat (first | (with_reducible assumption) | (focus ((with_reducible refine lt_new ?_); (repeat (first | (with_reducible rfl) | (with_reducible refine sz1 ?_))); done)) | (with_reducible refine lt_here ?_))))))) (by (repeat (first | (with_reducible assumption) | (focus ((with_reducible refine lt_new ?_); (repeat (first | (with_reducible rfl) | (with_reducible refine sz1 ?_))); done)) | (with_reducible refine lt_here ?_))))))
    | (go_at_call 18; ((with_reducible refine (WB.out _).mono ?_); rintro e v2 ⟨rfl, hb2⟩; have A2 := blk_later (by simp) hb2 A1; have B2 := blk_later (by simp) hb2 B1; have Z2 := blk_later (by simp) hb2 Z1; have F2 := fro_call hb2 F1 (blk_lt (by simp) Z1); clear A1 B1 Z1 F1))
    | (go_at_call 43; ((with_reducible refine (RD.out _).mono ?_); rintro e v3 ⟨rfl, hb3⟩; have A3 := blk_later (by simp) hb3 A2; have B3 := blk_later (by simp) hb3 B2; have Z3 := blk_later (by simp) hb3 Z2; have F3 := fro_call hb3 F2 (blk_lt (by simp) Z2); have hl3 : w.heap.size + 1 + 1 < v3.heap.size := blk_lt (by simp) Z3; clear A2 B2 Z2 F2)))
  have q0 := celq_of (Z3 0)
  have q1 := celq_of (Z3 1)
  have q2 := celq_of (Z3 2)
  have n0 : w.heap.size + 1 + 1 ≠ w.heap.size := by omega
  have n1 : w.heap.size + 1 + 1 ≠ w.heap.size + 1 := by omega
  go_region_held3 (fun w' => (∀ o, w'.cell? ⟨w.heap.size, o, none⟩ = (#[.int .i64 x, .int .i64 y, .int .i64 z] : Array Value)[o]?) ∧ (∀ o, w'.cell? ⟨w.heap.size + 1, o, none⟩ = (#[.int .i64 a, .int .i64 b, .int .i64 c] : Array Value)[o]?) ∧
      w'.cell? ⟨w.heap.size + 1 + 1, 0, none⟩ = some (celq w' (w.heap.size + 1 + 1) 0) ∧ w'.cell? ⟨w.heap.size + 1 + 1, 1, none⟩ = some (celq w' (w.heap.size + 1 + 1) 1) ∧ w'.cell? ⟨w.heap.size + 1 + 1, 2, none⟩ = some (celq w' (w.heap.size + 1 + 1) 2) ∧ (∀ o, w'.frozen? ⟨w.heap.size + 1 + 1, o, none⟩ = false) ∧ w.heap.size + 1 + 1 < w'.heap.size)
    (((first | (go_split_ands; skip) | skip); (repeat' apply And.intro) <;> (first | assumption | (with_reducible exact blk_drew (by assumption)) | (with_reducible exact blk_later (by simp) (by assumption) (by assumption)) | (with_reducible exact celq_later (by assumption) (by assumption)) | (with_reducible exact celq_0 (by assumption)) | (with_reducible exact celq_1 (by assumption)) | (with_reducible exact celq_2 (by assumption)) | (with_reducible exact fro_call (by assumption) (by assumption) (by omega)) | (with_reducible exact s3_blk (by assumption) (by assumption)) | omega | (simp [*, go_sem]; done) | (intro o; simp [*]; done))))
    (first
      | (go_at_call 46; ((with_reducible refine (SA.out _).mono ?_); rintro e v4 ⟨rfl, hb4⟩; have hs4 := hb4.size))
      | (go_at_call 45; ((with_reducible refine (OF.out _).mono ?_); rintro e v5 ⟨rfl, hb5⟩; have hs5 := hb5.size))
      | (go_at_call 44; ((with_reducible refine (AD.out _).mono ?_); rintro e v6 ⟨rfl, hb6⟩; have hs6 := hb6.size)))
  all_goals
    go_wp2_with fail
    have y0 := cell_later hb6 (cell_later hb5 (cell_later hb4 (cell_drew q0)))
    have y1 := cell_later hb6 (cell_later hb5 (cell_later hb4 (cell_drew q1)))
    have y2 := cell_later hb6 (cell_later hb5 (cell_later hb4 (cell_drew q2)))
    have k0 := s3_0 (u := .int .i64 s0) (v := .int .i64 s1) (x := .int .i64 s2) y0
    have k1 := s3_1 (u := .int .i64 s0) (v := .int .i64 s1) (x := .int .i64 s2) y1
    have k2 := s3_2 (u := .int .i64 s0) (v := .int .i64 s1) (x := .int .i64 s2) y2
    refine bodyPost_ret (v := .tuple #[V3 s0 s1 s2, .bool true]) (by simp [results, Try.results21, go_sem, k0, k1, k2]) rfl ?_
    exact ⟨rfl, by (repeat' (first | (with_reducible exact Below.refl _ _) | (with_reducible refine bstep (by with_reducible assumption) ?_) | (with_reducible refine Below.alloc ?_ ?_ _) | (with_reducible refine Below.drew ?_) | (with_reducible refine below_drewN ?_ _) | (with_reducible refine Below.setCell ?_ ?_ _) | go_size))⟩
/-- No lifted point: the zero point, and false. -/
theorem lift_no (x y z a b c t h : Int) (hok : lfok x y z a b c t h = false) (w : World) :
    Calls Try.prog 21 #[V3 x y z, V3 a b c, .int .i64 t, .int .i64 h] w fun e w' => e = .returned (.tuple #[V3 0 0 0, .bool false]) ∧ Below w.heap.size w w' := by
  cases ha : inB x y z 65024
  · have WA := Lib.hid (within_is ha)
    clear hok ha
    go_enter Try.func21, Try.ntmps21
    go_wp2_with (go_at_call 18; ((with_reducible refine (WA.out _).mono ?_); rintro e v1 ⟨rfl, hb1⟩; have Z1 : ∀ o, v1.cell? ⟨w.heap.size + 1 + 1, o, none⟩ = (#[.int .i64 0, .int .i64 0, .int .i64 0] : Array Value)[o]? := blk_later (by simp) hb1 (by (repeat (first | (with_reducible assumption) | (focus ((with_reducible refine new_at ?_ _ _); (repeat (first | (with_reducible rfl) | (with_reducible refine sz1 ?_))); done)) | (with_reducible refine blk_alloc (by simp) _ ?_) | (with_reducible refine blk_drew ?_)))); have F1 : ∀ o, v1.frozen? ⟨w.heap.size + 1 + 1, o, none⟩ = false := fro_call hb1 (by (repeat (first | (with_reducible assumption) | (focus ((with_reducible refine fro_new ?_ _ _); (repeat (first | (with_reducible rfl) | (with_reducible refine sz1 ?_))); done)) | ((with_reducible refine fro_more ?_ _ ?_); (repeat (first | (with_reducible assumption) | (focus ((with_reducible refine lt_new ?_); (repeat (first | (with_reducible rfl) | (with_reducible refine sz1 ?_))); done)) | (with_reducible refine lt_here ?_))))))) (by (repeat (first | (with_reducible assumption) | (focus ((with_reducible refine lt_new ?_); (repeat (first | (with_reducible rfl) | (with_reducible refine sz1 ?_))); done)) | (with_reducible refine lt_here ?_)))); have hl : w.heap.size + 1 + 1 < v1.heap.size := blk_lt (by simp) Z1))
    have k0 := s3_0 (u := .int .i64 0) (v := .int .i64 0) (x := .int .i64 0) (Z1 0)
    have k1 := s3_1 (u := .int .i64 0) (v := .int .i64 0) (x := .int .i64 0) (Z1 1)
    have k2 := s3_2 (u := .int .i64 0) (v := .int .i64 0) (x := .int .i64 0) (Z1 2)
    refine bodyPost_ret (v := .tuple #[V3 0 0 0, .bool false]) (by simp [results, Try.results21, go_sem, k0, k1, k2]) rfl ?_
    exact ⟨rfl, by (repeat' (first | (with_reducible exact Below.refl _ _) | (with_reducible refine bstep (by with_reducible assumption) ?_) | (with_reducible refine Below.alloc ?_ ?_ _) | (with_reducible refine Below.drew ?_) | (with_reducible refine below_drewN ?_ _) | (with_reducible refine Below.setCell ?_ ?_ _) | go_size))⟩
  have WA := Lib.hid (within_is ha)
  cases hb : inB a b c 1023
  · have WB := Lib.hid (within_is hb)
    clear hok ha hb
    go_enter Try.func21, Try.ntmps21
    (go_wp2_with (first | (go_at_call 18; ((with_reducible refine (WA.out _).mono ?_); rintro e v1 ⟨rfl, hb1⟩; have B1 : ∀ o, v1.cell? ⟨w.heap.size + 1, o, none⟩ = (#[.int .i64 a, .int .i64 b, .int .i64 c] : Array Value)[o]? := blk_later (by simp) hb1 (by (repeat (first | (with_reducible assumption) | (focus ((with_reducible refine new_at ?_ _ _); (repeat (first | (with_reducible rfl) | (with_reducible refine sz1 ?_))); done)) | (with_reducible refine blk_alloc (by simp) _ ?_) | (with_reducible refine blk_drew ?_)))); have Z1 : ∀ o, v1.cell? ⟨w.heap.size + 1 + 1, o, none⟩ = (#[.int .i64 0, .int .i64 0, .int .i64 0] : Array Value)[o]? := blk_later (by simp) hb1 (by (repeat (first | (with_reducible assumption) | (focus ((with_reducible refine new_at ?_ _ _); (repeat (first | (with_reducible rfl) | (with_reducible refine sz1 ?_))); done)) | (with_reducible refine blk_alloc (by simp) _ ?_) | (with_reducible refine blk_drew ?_)))); have F1 : ∀ o, v1.frozen? ⟨w.heap.size + 1 + 1, o, none⟩ = false := fro_call hb1 (by (repeat (first | (with_reducible assumption) | (focus ((with_reducible refine fro_new ?_ _ _); (repeat (first | (with_reducible rfl) | (with_reducible refine sz1 ?_))); done)) | ((with_reducible refine fro_more ?_ _ ?_); (repeat (first | (with_reducible assumption) | (focus ((with_reducible refine lt_new ?_); (repeat (first | (with_reducible rfl) | (with_reducible refine sz1 ?_))); done)) | (with_reducible refine lt_here ?_))))))) (by (repeat (first | (with_reducible assumption) | (focus ((with_reducible refine lt_new ?_); (repeat (first | (with_reducible rfl) | (with_reducible refine sz1 ?_))); done)) | (with_reducible refine lt_here ?_)))))) | (go_at_call 18; ((with_reducible refine (WB.out _).mono ?_); rintro e v2 ⟨rfl, hb2⟩; have Z2 := blk_later (by simp) hb2 Z1; have F2 := fro_call hb2 F1 (blk_lt (by simp) Z1); have hl : w.heap.size + 1 + 1 < v2.heap.size := blk_lt (by simp) Z2; clear Z1 F1))); have k0 := s3_0 (u := .int .i64 0) (v := .int .i64 0) (x := .int .i64 0) (Z2 0); have k1 := s3_1 (u := .int .i64 0) (v := .int .i64 0) (x := .int .i64 0) (Z2 1); have k2 := s3_2 (u := .int .i64 0) (v := .int .i64 0) (x := .int .i64 0) (Z2 2); refine bodyPost_ret (v := .tuple #[V3 0 0 0, .bool false]) (by simp [results, Try.results21, go_sem, k0, k1, k2]) rfl ?_; exact ⟨rfl, by (repeat' (first | (with_reducible exact Below.refl _ _) | (with_reducible refine bstep (by with_reducible assumption) ?_) | (with_reducible refine Below.alloc ?_ ?_ _) | (with_reducible refine Below.drew ?_) | (with_reducible refine below_drewN ?_ _) | (with_reducible refine Below.setCell ?_ ?_ _) | go_size))⟩)
  have WB := Lib.hid (within_is hb)
  simp only [lfok, ha, hb, Bool.true_and] at hok
  clear ha hb
  by_cases c1 : mn t h < 0
  · have d1 : decide (mn t h < 0) = true := decide_eq_true c1
    clear hok c1
    go_enter Try.func21, Try.ntmps21
    (go_wp2_with (first | (go_at_call 18; ((with_reducible refine (WA.out _).mono ?_); rintro e v1 ⟨rfl, hb1⟩; have B1 : ∀ o, v1.cell? ⟨w.heap.size + 1, o, none⟩ = (#[.int .i64 a, .int .i64 b, .int .i64 c] : Array Value)[o]? := blk_later (by simp) hb1 (by (repeat (first | (with_reducible assumption) | (focus ((with_reducible refine new_at ?_ _ _); (repeat (first | (with_reducible rfl) | (with_reducible refine sz1 ?_))); done)) | (with_reducible refine blk_alloc (by simp) _ ?_) | (with_reducible refine blk_drew ?_)))); have Z1 : ∀ o, v1.cell? ⟨w.heap.size + 1 + 1, o, none⟩ = (#[.int .i64 0, .int .i64 0, .int .i64 0] : Array Value)[o]? := blk_later (by simp) hb1 (by (repeat (first | (with_reducible assumption) | (focus ((with_reducible refine new_at ?_ _ _); (repeat (first | (with_reducible rfl) | (with_reducible refine sz1 ?_))); done)) | (with_reducible refine blk_alloc (by simp) _ ?_) | (with_reducible refine blk_drew ?_)))); have F1 : ∀ o, v1.frozen? ⟨w.heap.size + 1 + 1, o, none⟩ = false := fro_call hb1 (by (repeat (first | (with_reducible assumption) | (focus ((with_reducible refine fro_new ?_ _ _); (repeat (first | (with_reducible rfl) | (with_reducible refine sz1 ?_))); done)) | ((with_reducible refine fro_more ?_ _ ?_); (repeat (first | (with_reducible assumption) | (focus ((with_reducible refine lt_new ?_); (repeat (first | (with_reducible rfl) | (with_reducible refine sz1 ?_))); done)) | (with_reducible refine lt_here ?_))))))) (by (repeat (first | (with_reducible assumption) | (focus ((with_reducible refine lt_new ?_); (repeat (first | (with_reducible rfl) | (with_reducible refine sz1 ?_))); done)) | (with_reducible refine lt_here ?_)))))) | (go_at_call 18; ((with_reducible refine (WB.out _).mono ?_); rintro e v2 ⟨rfl, hb2⟩; have Z2 := blk_later (by simp) hb2 Z1; have F2 := fro_call hb2 F1 (blk_lt (by simp) Z1); have hl : w.heap.size + 1 + 1 < v2.heap.size := blk_lt (by simp) Z2; clear Z1 F1))); have k0 := s3_0 (u := .int .i64 0) (v := .int .i64 0) (x := .int .i64 0) (Z2 0); have k1 := s3_1 (u := .int .i64 0) (v := .int .i64 0) (x := .int .i64 0) (Z2 1); have k2 := s3_2 (u := .int .i64 0) (v := .int .i64 0) (x := .int .i64 0) (Z2 2); refine bodyPost_ret (v := .tuple #[V3 0 0 0, .bool false]) (by simp [results, Try.results21, go_sem, k0, k1, k2]) rfl ?_; exact ⟨rfl, by (repeat' (first | (with_reducible exact Below.refl _ _) | (with_reducible refine bstep (by with_reducible assumption) ?_) | (with_reducible refine Below.alloc ?_ ?_ _) | (with_reducible refine Below.drew ?_) | (with_reducible refine below_drewN ?_ _) | (with_reducible refine Below.setCell ?_ ?_ _) | go_size))⟩)
  have d1 : decide (mn t h < 0) = false := decide_eq_false c1
  have d2 : decide (255 < mx t h) = true := by
    have : decide (0 ≤ mn t h) = true := decide_eq_true (by omega)
    rw [this, Bool.true_and, decide_eq_false_iff_not] at hok
    exact decide_eq_true (by omega)
  clear hok c1
  go_enter Try.func21, Try.ntmps21
  (go_wp2_with (first | (go_at_call 18; ((with_reducible refine (WA.out _).mono ?_); rintro e v1 ⟨rfl, hb1⟩; have B1 : ∀ o, v1.cell? ⟨w.heap.size + 1, o, none⟩ = (#[.int .i64 a, .int .i64 b, .int .i64 c] : Array Value)[o]? := blk_later (by simp) hb1 (by (repeat (first | (with_reducible assumption) | (focus ((with_reducible refine new_at ?_ _ _); (repeat (first | (with_reducible rfl) | (with_reducible refine sz1 ?_))); done)) | (with_reducible refine blk_alloc (by simp) _ ?_) | (with_reducible refine blk_drew ?_)))); have Z1 : ∀ o, v1.cell? ⟨w.heap.size + 1 + 1, o, none⟩ = (#[.int .i64 0, .int .i64 0, .int .i64 0] : Array Value)[o]? := blk_later (by simp) hb1 (by (repeat (first | (with_reducible assumption) | (focus ((with_reducible refine new_at ?_ _ _); (repeat (first | (with_reducible rfl) | (with_reducible refine sz1 ?_))); done)) | (with_reducible refine blk_alloc (by simp) _ ?_) | (with_reducible refine blk_drew ?_)))); have F1 : ∀ o, v1.frozen? ⟨w.heap.size + 1 + 1, o, none⟩ = false := fro_call hb1 (by (repeat (first | (with_reducible assumption) | (focus ((with_reducible refine fro_new ?_ _ _); (repeat (first | (with_reducible rfl) | (with_reducible refine sz1 ?_))); done)) | ((with_reducible refine fro_more ?_ _ ?_); (repeat (first | (with_reducible assumption) | (focus ((with_reducible refine lt_new ?_); (repeat (first | (with_reducible rfl) | (with_reducible refine sz1 ?_))); done)) | (with_reducible refine lt_here ?_))))))) (by (repeat (first | (with_reducible assumption) | (focus ((with_reducible refine lt_new ?_); (repeat (first | (with_reducible rfl) | (with_reducible refine sz1 ?_))); done)) | (with_reducible refine lt_here ?_)))))) | (go_at_call 18; ((with_reducible refine (WB.out _).mono ?_); rintro e v2 ⟨rfl, hb2⟩; have Z2 := blk_later (by simp) hb2 Z1; have F2 := fro_call hb2 F1 (blk_lt (by simp) Z1); have hl : w.heap.size + 1 + 1 < v2.heap.size := blk_lt (by simp) Z2; clear Z1 F1))); have k0 := s3_0 (u := .int .i64 0) (v := .int .i64 0) (x := .int .i64 0) (Z2 0); have k1 := s3_1 (u := .int .i64 0) (v := .int .i64 0) (x := .int .i64 0) (Z2 1); have k2 := s3_2 (u := .int .i64 0) (v := .int .i64 0) (x := .int .i64 0) (Z2 2); refine bodyPost_ret (v := .tuple #[V3 0 0 0, .bool false]) (by simp [results, Try.results21, go_sem, k0, k1, k2]) rfl ?_; exact ⟨rfl, by (repeat' (first | (with_reducible exact Below.refl _ _) | (with_reducible refine bstep (by with_reducible assumption) ?_) | (with_reducible refine Below.alloc ?_ ?_ _) | (with_reducible refine Below.drew ?_) | (with_reducible refine below_drewN ?_ _) | (with_reducible refine Below.setCell ?_ ?_ _) | go_size))⟩)
/-- Each lifted point. -/
theorem lift_is (x y z a b c t h : Int) (ok : Bool) (p q r : Int) (hok : lfok x y z a b c t h = ok) (e0 : lfv ok x a t h = p) (e1 : lfv ok y b t h = q) (e2 : lfv ok z c t h = r) (w : World) :
    Calls Try.prog 21 #[V3 x y z, V3 a b c, .int .i64 t, .int .i64 h] w fun e w' => e = .returned (.tuple #[V3 p q r, .bool ok]) ∧ Below w.heap.size w w' := by
  subst e0 e1 e2
  cases ok
  · exact lift_no x y z a b c t h hok w
  · exact lift_yes x y z a b c t h hok w
end Go.Proofs.Ytdemcleibpgglaa
