/- relievoref13.outer and beside: the spot of a side with a number; the inner spot beside it. -/
import Derived.Test.YtoalihdempcbjaaRWv1
namespace Go.Proofs.Ytoalihdempcbjaa
open Go.RowKit
set_option maxRecDepth 100000
set_option linter.unusedSimpArgs false
set_option linter.unusedVariables false
set_option maxHeartbeats 1000000 in
theorem router_any (R : Rt) (k i r : Nat) (hr : R.r k = r) (hk : k < 4) (w : World) : Calls Try.prog 41 #[.int .i64 (k : Int), .int .i64 (i : Int), .int .i64 (r : Int)] w fun e w' => e = .returned (V3n (ouS R k i)) ∧ Below w.heap.size w w' := by
  have hk0 : (0 : Int) ≤ (k : Int) := by omega
  have hk1 : (k : Int) < 4 := by omega
  by_cases h0 : i = 0
  · have e : V3n (ouS R k i) = V3s 1 (k : Int) 0 := by rw [ouS, if_pos h0]; rfl
    rw [e]
    subst h0
    clear e hr
    go_enter Try.func41, Try.ntmps41
    go_wp2_with fail
    have K : ∀ o, (w.alloc (.cells #[.int .i64 1, .int .i64 (k : Int), .int .i64 0] 50)).cell? ⟨w.heap.size, o, none⟩ = (#[.int .i64 1, .int .i64 (k : Int), .int .i64 0] : Array Value)[o]? := new_at rfl _ _
    have k0 := (K 0).trans (show _ = some (.int .i64 1) from rfl)
    have k1 := (K 1).trans (show _ = some (.int .i64 (k : Int)) from rfl)
    have k2 := (K 2).trans (show _ = some (.int .i64 0) from rfl)
    clear K
    refine bodyPost_ret (v := V3s 1 (k : Int) 0) (by simp [results, Try.results41, go_sem, k0, k1, k2, V3s]) rfl ?_
    exact ⟨rfl, by (repeat' (first | (with_reducible exact Below.refl _ _) | (with_reducible refine bstep (by with_reducible assumption) ?_) | (with_reducible refine Below.alloc ?_ ?_ _) | (with_reducible refine Below.drew ?_) | (with_reducible refine below_drewN ?_ _) | (with_reducible refine Below.setCell ?_ ?_ _) | go_size))⟩
  have z0 : ¬ ((i : Int) = 0) := by omega
  have z1 : ((i : Int) == 0) = false := beq_eq_false_iff_ne.mpr z0
  by_cases h1 : i = r
  · obtain ⟨q, hq⟩ : ∃ q : Int, ((k : Int) + 1) % 4 = q := ⟨_, rfl⟩
    have e : V3n (ouS R k i) = V3s 1 q 0 := by
      rw [ouS, if_neg h0, hr, if_pos h1, ← hq]; show V3s 1 (((k + 1) % 4 : Nat) : Int) 0 = _; rw [show (((k + 1) % 4 : Nat) : Int) = ((k : Int) + 1) % 4 by omega]
    rw [e]
    subst h1
    clear e hr h0
    go_enter Try.func41, Try.ntmps41
    go_wp2_with fail
    have K : ∀ o, (w.alloc (.cells #[.int .i64 1, .int .i64 q, .int .i64 0] 50)).cell? ⟨w.heap.size, o, none⟩ = (#[.int .i64 1, .int .i64 q, .int .i64 0] : Array Value)[o]? := new_at rfl _ _
    have k0 := (K 0).trans (show _ = some (.int .i64 1) from rfl)
    have k1 := (K 1).trans (show _ = some (.int .i64 q) from rfl)
    have k2 := (K 2).trans (show _ = some (.int .i64 0) from rfl)
    clear K
    refine bodyPost_ret (v := V3s 1 q 0) (by simp [results, Try.results41, go_sem, k0, k1, k2, V3s]) rfl ?_
    exact ⟨rfl, by (repeat' (first | (with_reducible exact Below.refl _ _) | (with_reducible refine bstep (by with_reducible assumption) ?_) | (with_reducible refine Below.alloc ?_ ?_ _) | (with_reducible refine Below.drew ?_) | (with_reducible refine below_drewN ?_ _) | (with_reducible refine Below.setCell ?_ ?_ _) | go_size))⟩
  · have z2 : ¬ ((i : Int) = (r : Int)) := by omega
    have z3 : ((i : Int) == (r : Int)) = false := beq_eq_false_iff_ne.mpr z2
    have e : V3n (ouS R k i) = V3s 2 (k : Int) (i : Int) := by rw [ouS, if_neg h0, hr, if_neg h1]; rfl
    rw [e]
    clear e hr h0 h1
    go_enter Try.func41, Try.ntmps41
    go_wp2_with fail
    have K : ∀ o, (w.alloc (.cells #[.int .i64 2, .int .i64 (k : Int), .int .i64 (i : Int)] 50)).cell? ⟨w.heap.size, o, none⟩ = (#[.int .i64 2, .int .i64 (k : Int), .int .i64 (i : Int)] : Array Value)[o]? := new_at rfl _ _
    have k0 := (K 0).trans (show _ = some (.int .i64 2) from rfl)
    have k1 := (K 1).trans (show _ = some (.int .i64 (k : Int)) from rfl)
    have k2 := (K 2).trans (show _ = some (.int .i64 (i : Int)) from rfl)
    clear K
    refine bodyPost_ret (v := V3s 2 (k : Int) (i : Int)) (by simp [results, Try.results41, go_sem, k0, k1, k2, V3s]) rfl ?_
    exact ⟨rfl, by (repeat' (first | (with_reducible exact Below.refl _ _) | (with_reducible refine bstep (by with_reducible assumption) ?_) | (with_reducible refine Below.alloc ?_ ?_ _) | (with_reducible refine Below.drew ?_) | (with_reducible refine below_drewN ?_ _) | (with_reducible refine Below.setCell ?_ ?_ _) | go_size))⟩
set_option maxHeartbeats 1000000 in
theorem rbeside_0 (t l q m : Nat) (hm : m ≤ 16) (ht : 1 ≤ t ∧ t < m) (hl : l = m - 1) (hq : q = m - t) (w : World) : Calls Try.prog 42 #[.int .i64 0, .int .i64 (t : Int), .int .i64 (m : Int)] w fun e w' => e = .returned (V3s 3 (t : Int) 1) ∧ Below w.heap.size w w' := by
  have wL : (m : Int) - 1 = (l : Int) := by omega
  have wQ : (m : Int) - (t : Int) = (q : Int) := by omega
  have RI := Lib.hid (fun w => rinner_any (t : Int) 1 w)
  clear hl hq
  go_enter Try.func42, Try.ntmps42
  go_wp2_with (go_at_call 39; ((with_reducible refine (RI.out _).mono ?_); rintro e v1 ⟨rfl, hb1⟩; have Z1 : ∀ o, v1.cell? ⟨w.heap.size, o, none⟩ = (#[.int .i64 0, .int .i64 0, .int .i64 0] : Array Value)[o]? := blk_later (by simp) hb1 (by (repeat (first | (with_reducible assumption) | (focus ((with_reducible refine new_at ?_ _ _); (repeat (first | (with_reducible rfl) | (with_reducible refine sz1 ?_))); done)) | (with_reducible refine blk_alloc (by simp) _ ?_) | (with_reducible refine blk_drew ?_)))); have F1 : ∀ o, v1.frozen? ⟨w.heap.size, o, none⟩ = false := fro_call hb1 (by (repeat (first | (with_reducible assumption) | (focus ((with_reducible refine fro_new ?_ _ _); (repeat (first | (with_reducible rfl) | (with_reducible refine sz1 ?_))); done)) | ((with_reducible refine fro_more ?_ _ ?_); (repeat (first | (with_reducible assumption) | (focus ((with_reducible refine lt_new ?_); (repeat (first | (with_reducible rfl) | (with_reducible refine sz1 ?_))); done)) | (with_reducible refine lt_here ?_))))))) (by (repeat (first | (with_reducible assumption) | (focus ((with_reducible refine lt_new ?_); (repeat (first | (with_reducible rfl) | (with_reducible refine sz1 ?_))); done)) | (with_reducible refine lt_here ?_)))); have L1 : w.heap.size < v1.heap.size := blk_lt (by simp) Z1; unfold V3s))
  have k0 := s3_0 (u := .int .i64 3) (v := .int .i64 (t : Int)) (x := .int .i64 1) (Z1 0)
  have k1 := s3_1 (u := .int .i64 3) (v := .int .i64 (t : Int)) (x := .int .i64 1) (Z1 1)
  have k2 := s3_2 (u := .int .i64 3) (v := .int .i64 (t : Int)) (x := .int .i64 1) (Z1 2)
  refine bodyPost_ret (v := V3s 3 (t : Int) 1) (by simp [results, Try.results42, go_sem, k0, k1, k2, V3s]) rfl ?_
  exact ⟨rfl, by (repeat' (first | (with_reducible exact Below.refl _ _) | (with_reducible refine bstep (by with_reducible assumption) ?_) | (with_reducible refine Below.alloc ?_ ?_ _) | (with_reducible refine Below.drew ?_) | (with_reducible refine below_drewN ?_ _) | (with_reducible refine Below.setCell ?_ ?_ _) | go_size))⟩
set_option maxHeartbeats 1000000 in
theorem rbeside_1 (t l q m : Nat) (hm : m ≤ 16) (ht : 1 ≤ t ∧ t < m) (hl : l = m - 1) (hq : q = m - t) (w : World) : Calls Try.prog 42 #[.int .i64 1, .int .i64 (t : Int), .int .i64 (m : Int)] w fun e w' => e = .returned (V3s 3 (l : Int) (t : Int)) ∧ Below w.heap.size w w' := by
  have wL : (m : Int) - 1 = (l : Int) := by omega
  have wQ : (m : Int) - (t : Int) = (q : Int) := by omega
  have RI := Lib.hid (fun w => rinner_any (l : Int) (t : Int) w)
  clear hl hq
  go_enter Try.func42, Try.ntmps42
  go_wp2_with (go_at_call 39; ((with_reducible refine (RI.out _).mono ?_); rintro e v1 ⟨rfl, hb1⟩; have Z1 : ∀ o, v1.cell? ⟨w.heap.size, o, none⟩ = (#[.int .i64 0, .int .i64 0, .int .i64 0] : Array Value)[o]? := blk_later (by simp) hb1 (by (repeat (first | (with_reducible assumption) | (focus ((with_reducible refine new_at ?_ _ _); (repeat (first | (with_reducible rfl) | (with_reducible refine sz1 ?_))); done)) | (with_reducible refine blk_alloc (by simp) _ ?_) | (with_reducible refine blk_drew ?_)))); have F1 : ∀ o, v1.frozen? ⟨w.heap.size, o, none⟩ = false := fro_call hb1 (by (repeat (first | (with_reducible assumption) | (focus ((with_reducible refine fro_new ?_ _ _); (repeat (first | (with_reducible rfl) | (with_reducible refine sz1 ?_))); done)) | ((with_reducible refine fro_more ?_ _ ?_); (repeat (first | (with_reducible assumption) | (focus ((with_reducible refine lt_new ?_); (repeat (first | (with_reducible rfl) | (with_reducible refine sz1 ?_))); done)) | (with_reducible refine lt_here ?_))))))) (by (repeat (first | (with_reducible assumption) | (focus ((with_reducible refine lt_new ?_); (repeat (first | (with_reducible rfl) | (with_reducible refine sz1 ?_))); done)) | (with_reducible refine lt_here ?_)))); have L1 : w.heap.size < v1.heap.size := blk_lt (by simp) Z1; unfold V3s))
  have k0 := s3_0 (u := .int .i64 3) (v := .int .i64 (l : Int)) (x := .int .i64 (t : Int)) (Z1 0)
  have k1 := s3_1 (u := .int .i64 3) (v := .int .i64 (l : Int)) (x := .int .i64 (t : Int)) (Z1 1)
  have k2 := s3_2 (u := .int .i64 3) (v := .int .i64 (l : Int)) (x := .int .i64 (t : Int)) (Z1 2)
  refine bodyPost_ret (v := V3s 3 (l : Int) (t : Int)) (by simp [results, Try.results42, go_sem, k0, k1, k2, V3s]) rfl ?_
  exact ⟨rfl, by (repeat' (first | (with_reducible exact Below.refl _ _) | (with_reducible refine bstep (by with_reducible assumption) ?_) | (with_reducible refine Below.alloc ?_ ?_ _) | (with_reducible refine Below.drew ?_) | (with_reducible refine below_drewN ?_ _) | (with_reducible refine Below.setCell ?_ ?_ _) | go_size))⟩
set_option maxHeartbeats 1000000 in
theorem rbeside_2 (t l q m : Nat) (hm : m ≤ 16) (ht : 1 ≤ t ∧ t < m) (hl : l = m - 1) (hq : q = m - t) (w : World) : Calls Try.prog 42 #[.int .i64 2, .int .i64 (t : Int), .int .i64 (m : Int)] w fun e w' => e = .returned (V3s 3 (q : Int) (l : Int)) ∧ Below w.heap.size w w' := by
  have wL : (m : Int) - 1 = (l : Int) := by omega
  have wQ : (m : Int) - (t : Int) = (q : Int) := by omega
  have RI := Lib.hid (fun w => rinner_any (q : Int) (l : Int) w)
  clear hl hq
  go_enter Try.func42, Try.ntmps42
  go_wp2_with (go_at_call 39; ((with_reducible refine (RI.out _).mono ?_); rintro e v1 ⟨rfl, hb1⟩; have Z1 : ∀ o, v1.cell? ⟨w.heap.size, o, none⟩ = (#[.int .i64 0, .int .i64 0, .int .i64 0] : Array Value)[o]? := blk_later (by simp) hb1 (by (repeat (first | (with_reducible assumption) | (focus ((with_reducible refine new_at ?_ _ _); (repeat (first | (with_reducible rfl) | (with_reducible refine sz1 ?_))); done)) | (with_reducible refine blk_alloc (by simp) _ ?_) | (with_reducible refine blk_drew ?_)))); have F1 : ∀ o, v1.frozen? ⟨w.heap.size, o, none⟩ = false := fro_call hb1 (by (repeat (first | (with_reducible assumption) | (focus ((with_reducible refine fro_new ?_ _ _); (repeat (first | (with_reducible rfl) | (with_reducible refine sz1 ?_))); done)) | ((with_reducible refine fro_more ?_ _ ?_); (repeat (first | (with_reducible assumption) | (focus ((with_reducible refine lt_new ?_); (repeat (first | (with_reducible rfl) | (with_reducible refine sz1 ?_))); done)) | (with_reducible refine lt_here ?_))))))) (by (repeat (first | (with_reducible assumption) | (focus ((with_reducible refine lt_new ?_); (repeat (first | (with_reducible rfl) | (with_reducible refine sz1 ?_))); done)) | (with_reducible refine lt_here ?_)))); have L1 : w.heap.size < v1.heap.size := blk_lt (by simp) Z1; unfold V3s))
  have k0 := s3_0 (u := .int .i64 3) (v := .int .i64 (q : Int)) (x := .int .i64 (l : Int)) (Z1 0)
  have k1 := s3_1 (u := .int .i64 3) (v := .int .i64 (q : Int)) (x := .int .i64 (l : Int)) (Z1 1)
  have k2 := s3_2 (u := .int .i64 3) (v := .int .i64 (q : Int)) (x := .int .i64 (l : Int)) (Z1 2)
  refine bodyPost_ret (v := V3s 3 (q : Int) (l : Int)) (by simp [results, Try.results42, go_sem, k0, k1, k2, V3s]) rfl ?_
  exact ⟨rfl, by (repeat' (first | (with_reducible exact Below.refl _ _) | (with_reducible refine bstep (by with_reducible assumption) ?_) | (with_reducible refine Below.alloc ?_ ?_ _) | (with_reducible refine Below.drew ?_) | (with_reducible refine below_drewN ?_ _) | (with_reducible refine Below.setCell ?_ ?_ _) | go_size))⟩
set_option maxHeartbeats 1000000 in
theorem rbeside_3 (t l q m : Nat) (hm : m ≤ 16) (ht : 1 ≤ t ∧ t < m) (hl : l = m - 1) (hq : q = m - t) (w : World) : Calls Try.prog 42 #[.int .i64 3, .int .i64 (t : Int), .int .i64 (m : Int)] w fun e w' => e = .returned (V3s 3 1 (q : Int)) ∧ Below w.heap.size w w' := by
  have wL : (m : Int) - 1 = (l : Int) := by omega
  have wQ : (m : Int) - (t : Int) = (q : Int) := by omega
  have RI := Lib.hid (fun w => rinner_any 1 (q : Int) w)
  clear hl hq
  go_enter Try.func42, Try.ntmps42
  go_wp2_with (go_at_call 39; ((with_reducible refine (RI.out _).mono ?_); rintro e v1 ⟨rfl, hb1⟩; have Z1 : ∀ o, v1.cell? ⟨w.heap.size, o, none⟩ = (#[.int .i64 0, .int .i64 0, .int .i64 0] : Array Value)[o]? := blk_later (by simp) hb1 (by (repeat (first | (with_reducible assumption) | (focus ((with_reducible refine new_at ?_ _ _); (repeat (first | (with_reducible rfl) | (with_reducible refine sz1 ?_))); done)) | (with_reducible refine blk_alloc (by simp) _ ?_) | (with_reducible refine blk_drew ?_)))); have F1 : ∀ o, v1.frozen? ⟨w.heap.size, o, none⟩ = false := fro_call hb1 (by (repeat (first | (with_reducible assumption) | (focus ((with_reducible refine fro_new ?_ _ _); (repeat (first | (with_reducible rfl) | (with_reducible refine sz1 ?_))); done)) | ((with_reducible refine fro_more ?_ _ ?_); (repeat (first | (with_reducible assumption) | (focus ((with_reducible refine lt_new ?_); (repeat (first | (with_reducible rfl) | (with_reducible refine sz1 ?_))); done)) | (with_reducible refine lt_here ?_))))))) (by (repeat (first | (with_reducible assumption) | (focus ((with_reducible refine lt_new ?_); (repeat (first | (with_reducible rfl) | (with_reducible refine sz1 ?_))); done)) | (with_reducible refine lt_here ?_)))); have L1 : w.heap.size < v1.heap.size := blk_lt (by simp) Z1; unfold V3s))
  have k0 := s3_0 (u := .int .i64 3) (v := .int .i64 1) (x := .int .i64 (q : Int)) (Z1 0)
  have k1 := s3_1 (u := .int .i64 3) (v := .int .i64 1) (x := .int .i64 (q : Int)) (Z1 1)
  have k2 := s3_2 (u := .int .i64 3) (v := .int .i64 1) (x := .int .i64 (q : Int)) (Z1 2)
  refine bodyPost_ret (v := V3s 3 1 (q : Int)) (by simp [results, Try.results42, go_sem, k0, k1, k2, V3s]) rfl ?_
  exact ⟨rfl, by (repeat' (first | (with_reducible exact Below.refl _ _) | (with_reducible refine bstep (by with_reducible assumption) ?_) | (with_reducible refine Below.alloc ?_ ?_ _) | (with_reducible refine Below.drew ?_) | (with_reducible refine below_drewN ?_ _) | (with_reducible refine Below.setCell ?_ ?_ _) | go_size))⟩
theorem rbeside_any (R : Rt) (k t m : Nat) (hm : R.m = m) (hm2 : m ≤ 16) (hk : k < 4) (ht : 1 ≤ t ∧ t < m) (w : World) : Calls Try.prog 42 #[.int .i64 (k : Int), .int .i64 (t : Int), .int .i64 (m : Int)] w fun e w' => e = .returned (V3n (besS R.m k t)) ∧ Below w.heap.size w w' := by
  subst hm
  match k, hk with
  | 0, _ => exact rbeside_0 t _ _ _ hm2 ht rfl rfl w
  | 1, _ => exact rbeside_1 t _ _ _ hm2 ht rfl rfl w
  | 2, _ => exact rbeside_2 t _ _ _ hm2 ht rfl rfl w
  | 3, _ => exact rbeside_3 t _ _ _ hm2 ht rfl rfl w
end Go.Proofs.Ytoalihdempcbjaa
