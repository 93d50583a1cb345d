/- The law on boxes, walked: for all slices of points, boxes and points of 64 bits it answers true. -/
import Derived.Test.YtodgnpggcdjgaaaRBound
import Derived.Test.YtodgnpggcdjgaaaRSame
import Derived.Test.YtodgnpggcdjgaaaCopy
namespace Go.Proofs.Ytodgnpggcdjgaaa
open Go.RowKit
set_option maxRecDepth 100000
set_option linter.unusedSimpArgs false
set_option linter.unusedVariables false
def BxC (S T U : Nat) (ca cb cp cx : Array Value) (u v : Value) (n : Nat) (X : Nat → Int) (w w' : World) : Prop := (∀ o, w'.cell? ⟨S, o, none⟩ = ca[o]?) ∧ (∀ o, w'.cell? ⟨S + 1, o, none⟩ = cb[o]?) ∧ (∀ o, w'.cell? ⟨S + 1 + 1, o, none⟩ = cp[o]?) ∧ (∀ o, w'.cell? ⟨T, o, none⟩ = cx[o]?) ∧ (∀ o, w'.cell? ⟨U, o, none⟩ = cx[o]?) ∧ Pts w' u n X ∧ Pts w' v n X ∧ Below w.heap.size w w'
theorem vx_far (v : Value) (n : Nat) (X : Nat → Int) (a0 a1 a2 a3 a4 a5 b0 b1 b2 b3 b4 b5 x y z : Int) (hn : 2000 < n) (w : World) (hv : Pts w v n X) :
    Calls Try.prog 9 #[v, B6 a0 a1 a2 a3 a4 a5, B6 b0 b1 b2 b3 b4 b5, V3 x y z] w fun e w' => e = .returned (.bool true) ∧ Below w.heap.size w w' := by
  rcases hv with ⟨rfl, _⟩ | ⟨b, off, c, rfl, h1, _⟩
  · omega
  have d : (2000 : Int) < (n : Int) := by omega
  go_enter Try.func9, Try.ntmps9
  go_wp2_with (go_at_call 20; ((with_reducible refine (alive02_any _).mono ?_); rintro e w1 ⟨rfl, hb1⟩))
  all_goals first | (exfalso; omega) | (go_returns; exact ⟨by simp, by (repeat' (first | (with_reducible exact Below.refl _ _) | (with_reducible refine bstep (by with_reducible assumption) ?_) | (with_reducible refine Below.alloc ?_ ?_ _) | (with_reducible refine Below.drew ?_) | (with_reducible refine below_drewN ?_ _) | (with_reducible refine Below.setCell ?_ ?_ _) | go_size))⟩)
set_option maxHeartbeats 8000000 in
theorem vx_near (n : Nat) (p : Option Addr) (c : Nat) (X : Nat → Int) (hn : n ≤ 2000) (ok : Bool) (l0 l1 l2 l3 l4 l5 a0 a1 a2 a3 a4 a5 b0 b1 b2 b3 b4 b5 x y z : Int) (w : World) (hP : Pts w (.slice p n c) n X)
    (CA : ∀ w', Below w.heap.size w w' → Calls Try.prog 28 #[.slice p n c] w' fun e w'' => ∃ u, e = .returned u ∧ Pts w'' u n X ∧ Below w'.heap.size w' w'')
    (BA : ∀ u w', Pts w' u n X → Calls Try.prog 29 #[u] w' fun e w'' => e = .returned (.tuple #[B6 l0 l1 l2 l3 l4 l5, .bool ok]) ∧ Below w'.heap.size w' w'')
    (BR : ∀ u w', Pts w' u n X → Calls Try.prog 30 #[u] w' fun e w'' => e = .returned (.tuple #[B6 l0 l1 l2 l3 l4 l5, .bool ok]) ∧ Below w'.heap.size w' w'') :
    Calls Try.prog 9 #[.slice p n c, B6 a0 a1 a2 a3 a4 a5, B6 b0 b1 b2 b3 b4 b5, V3 x y z] w fun e w' => e = .returned (.bool true) ∧ Below w.heap.size w w' := by
  have J1 := join_any a0 a1 a2 a3 a4 a5 b0 b1 b2 b3 b4 b5
  have J2 := rjoin_any a0 a1 a2 a3 a4 a5 b0 b1 b2 b3 b4 b5
  have H1 := has_any a0 a1 a2 a3 a4 a5 x y z
  have H2 := rhas_any a0 a1 a2 a3 a4 a5 x y z
  obtain ⟨c0, q0⟩ : ∃ l, mn a0 b0 = l := ⟨_, rfl⟩
  obtain ⟨c1, q1⟩ : ∃ l, mn a1 b1 = l := ⟨_, rfl⟩
  obtain ⟨c2, q2⟩ : ∃ l, mn a2 b2 = l := ⟨_, rfl⟩
  obtain ⟨c3, q3⟩ : ∃ l, mx a3 b3 = l := ⟨_, rfl⟩
  obtain ⟨c4, q4⟩ : ∃ l, mx a4 b4 = l := ⟨_, rfl⟩
  obtain ⟨c5, q5⟩ : ∃ l, mx a5 b5 = l := ⟨_, rfl⟩
  obtain ⟨hb, qh⟩ : ∃ t, hasB a0 a1 a2 a3 a4 a5 x y z = t := ⟨_, rfl⟩
  rw [q0, q1, q2, q3, q4, q5] at J1 J2
  rw [qh] at H1 H2
  have J1 := Lib.hid J1
  have J2 := Lib.hid J2
  have H1 := Lib.hid H1
  have H2 := Lib.hid H2
  have CA := Lib.hid CA
  have BA := Lib.hid BA
  have BR := Lib.hid BR
  have HP := Lib.hid hP
  clear hP q0 q1 q2 q3 q4 q5 qh
  have n1 : ¬ (2000 : Int) < (n : Int) := by omega
  go_enter Try.func9, Try.ntmps9
  go_wp2_with (first
    | (go_at_call 20; ((with_reducible refine (alive02_any _).mono ?_); rintro e w1 ⟨rfl, hb1⟩; have A1 : ∀ o, w1.cell? ⟨w.heap.size, o, none⟩ = (#[.int .i64 a0, .int .i64 a1, .int .i64 a2, .int .i64 a3, .int .i64 a4, .int .i64 a5] : Array Value)[o]? := blk_later (by simp) hb1 (by (repeat (first | (with_reducible assumption) | (focus ((with_reducible refine new_at ?_ _ _); (repeat (first | (with_reducible rfl) | (with_reducible refine sz1 ?_))); done)) | (with_reducible refine blk_alloc (by simp) _ ?_) | (with_reducible refine blk_drew ?_)))); have B1 : ∀ o, w1.cell? ⟨w.heap.size + 1, o, none⟩ = (#[.int .i64 b0, .int .i64 b1, .int .i64 b2, .int .i64 b3, .int .i64 b4, .int .i64 b5] : Array Value)[o]? := blk_later (by simp) hb1 (by (repeat (first | (with_reducible assumption) | (focus ((with_reducible refine new_at ?_ _ _); (repeat (first | (with_reducible rfl) | (with_reducible refine sz1 ?_))); done)) | (with_reducible refine blk_alloc (by simp) _ ?_) | (with_reducible refine blk_drew ?_)))); have P1 : ∀ o, w1.cell? ⟨w.heap.size + 1 + 1, o, none⟩ = (#[.int .i64 x, .int .i64 y, .int .i64 z] : Array Value)[o]? := blk_later (by simp) hb1 (by (repeat (first | (with_reducible assumption) | (focus ((with_reducible refine new_at ?_ _ _); (repeat (first | (with_reducible rfl) | (with_reducible refine sz1 ?_))); done)) | (with_reducible refine blk_alloc (by simp) _ ?_) | (with_reducible refine blk_drew ?_))))))
    | (go_at_call 28; ((with_reducible refine (CA.out _ ?_).mono ?_); (focus ((repeat' (first | (with_reducible exact Below.refl _ _) | (with_reducible refine bstep (by with_reducible assumption) ?_) | (with_reducible refine Below.alloc ?_ ?_ _) | (with_reducible refine Below.drew ?_) | (with_reducible refine below_drewN ?_ _) | (with_reducible refine Below.setCell ?_ ?_ _) | go_size)))); rintro e w2 ⟨u, rfl, pu2, hb2⟩; have A2 := blk_later (by simp) hb2 A1; have B2 := blk_later (by simp) hb2 B1; have P2 := blk_later (by simp) hb2 P1; have HB2 := Lib.hid ((by (repeat' (first | (with_reducible exact Below.refl _ _) | (with_reducible refine bstep (by with_reducible assumption) ?_) | (with_reducible refine Below.alloc ?_ ?_ _) | (with_reducible refine Below.drew ?_) | (with_reducible refine below_drewN ?_ _) | (with_reducible refine Below.setCell ?_ ?_ _) | go_size))) : Below w.heap.size w w2)))
    | (go_at_call 29; ((with_reducible refine (BA.out _ _ pu2).mono ?_); rintro e w3 ⟨rfl, hb3⟩; have A3 := blk_later (by simp) hb3 A2; have B3 := blk_later (by simp) hb3 B2; have P3 := blk_later (by simp) hb3 P2; have s3 : w.heap.size < w3.heap.size := blk_lt (by simp) A3; have pu3 := pts_later hb3 pu2; have HB3 := Lib.hid (bstep hb3 HB2.out); have pv3 := pts_later ((by have := HB3.out; (repeat' (first | (with_reducible exact Below.refl _ _) | (with_reducible refine bstep (by with_reducible assumption) ?_) | (with_reducible refine Below.alloc ?_ ?_ _) | (with_reducible refine Below.drew ?_) | (with_reducible refine below_drewN ?_ _) | (with_reducible refine Below.setCell ?_ ?_ _) | go_size))) : Below w.heap.size w (w3.alloc (.cells (#[.int .i64 l0, .int .i64 l1, .int .i64 l2, .int .i64 l3, .int .i64 l4, .int .i64 l5] : Array Value) 41))) HP.out))
    | (go_at_call 30; ((with_reducible refine (BR.out _ _ pv3).mono ?_); rintro e w4 ⟨rfl, hb4⟩; have A4 := blk_later (by simp) hb4 (blk_alloc (by simp) _ A3); have B4 := blk_later (by simp) hb4 (blk_alloc (by simp) _ B3); have P4 := blk_later (by simp) hb4 (blk_alloc (by simp) _ P3); have X4 := blk_later (by simp) hb4 (new_at rfl _ _); have s4 : w.heap.size < w4.heap.size := blk_lt (by simp) A4; have pu4 := pts_later hb4 (pts_later ((Below.refl _ _).alloc (Nat.le_refl _) _) pu3); have pv4 := pts_later hb4 pv3; have HB4 := Lib.hid ((by have := HB3.out; (repeat' (first | (with_reducible exact Below.refl _ _) | (with_reducible refine bstep (by with_reducible assumption) ?_) | (with_reducible refine Below.alloc ?_ ?_ _) | (with_reducible refine Below.drew ?_) | (with_reducible refine below_drewN ?_ _) | (with_reducible refine Below.setCell ?_ ?_ _) | go_size))) : Below w.heap.size w w4))))
  refine region_quiet (BxC w.heap.size w3.heap.size w4.heap.size (#[.int .i64 a0, .int .i64 a1, .int .i64 a2, .int .i64 a3, .int .i64 a4, .int .i64 a5] : Array Value) (#[.int .i64 b0, .int .i64 b1, .int .i64 b2, .int .i64 b3, .int .i64 b4, .int .i64 b5] : Array Value) (#[.int .i64 x, .int .i64 y, .int .i64 z] : Array Value) (#[.int .i64 l0, .int .i64 l1, .int .i64 l2, .int .i64 l3, .int .i64 l4, .int .i64 l5] : Array Value) u (.slice p n c) n X w) (by kernel_rfl) (by kernel_rfl) ?_ ?_
  · (try dsimp only); (exact ⟨blk_alloc (by simp) _ A4, blk_alloc (by simp) _ B4, blk_alloc (by simp) _ P4, blk_alloc (by simp) _ X4, new_at rfl _ _, pts_later (by (repeat' (first | (with_reducible exact Below.refl _ _) | (with_reducible refine bstep (by with_reducible assumption) ?_) | (with_reducible refine Below.alloc ?_ ?_ _) | (with_reducible refine Below.drew ?_) | (with_reducible refine below_drewN ?_ _) | (with_reducible refine Below.setCell ?_ ?_ _) | go_size))) pu4, pts_later (by (repeat' (first | (with_reducible exact Below.refl _ _) | (with_reducible refine bstep (by with_reducible assumption) ?_) | (with_reducible refine Below.alloc ?_ ?_ _) | (with_reducible refine Below.drew ?_) | (with_reducible refine below_drewN ?_ _) | (with_reducible refine Below.setCell ?_ ?_ _) | go_size))) pv4, by have := HB4.out; (repeat' (first | (with_reducible exact Below.refl _ _) | (with_reducible refine bstep (by with_reducible assumption) ?_) | (with_reducible refine Below.alloc ?_ ?_ _) | (with_reducible refine Below.drew ?_) | (with_reducible refine below_drewN ?_ _) | (with_reducible refine Below.setCell ?_ ?_ _) | go_size))⟩)
  refine q_want ?_ (by rfl) (fun wo hSw => ?_) ?_
  rotate_left
  · obtain ⟨q1, q2, q3, q4, q5, q6, q7, q8⟩ := id hSw; go_simp; (try with_reducible rfl)
  try simp only [Act.put, List.setIfInBounds_toArray, List.set_cons_zero, List.set_cons_succ]
  refine q_want ?_ (by rfl) (fun wo hSw => ?_) ?_
  rotate_left
  · obtain ⟨q1, q2, q3, q4, q5, q6, q7, q8⟩ := id hSw; go_simp; (try with_reducible rfl)
  try simp only [Act.put, List.setIfInBounds_toArray, List.set_cons_zero, List.set_cons_succ]
  refine q_want ?_ (by rfl) (fun wo hSw => ?_) ?_
  rotate_left
  · obtain ⟨q1, q2, q3, q4, q5, q6, q7, q8⟩ := id hSw; go_simp; (try with_reducible rfl)
  try simp only [Act.put, List.setIfInBounds_toArray, List.set_cons_zero, List.set_cons_succ]
  refine q_want ?_ (by rfl) (fun wo hSw => ?_) ?_
  rotate_left
  · obtain ⟨q1, q2, q3, q4, q5, q6, q7, q8⟩ := id hSw; go_simp; (try with_reducible rfl)
  try simp only [Act.put, List.setIfInBounds_toArray, List.set_cons_zero, List.set_cons_succ]
  refine q_want ?_ (by rfl) (fun wo hSw => ?_) ?_
  rotate_left
  · obtain ⟨q1, q2, q3, q4, q5, q6, q7, q8⟩ := id hSw; go_simp; (try with_reducible rfl)
  try simp only [Act.put, List.setIfInBounds_toArray, List.set_cons_zero, List.set_cons_succ]
  refine q_want ?_ (by rfl) (fun wo hSw => ?_) ?_
  rotate_left
  · obtain ⟨q1, q2, q3, q4, q5, q6, q7, q8⟩ := id hSw; go_simp; (try with_reducible rfl)
  try simp only [Act.put, List.setIfInBounds_toArray, List.set_cons_zero, List.set_cons_succ]
  refine q_want ?_ (by rfl) (fun wo hSw => ?_) ?_
  rotate_left
  · obtain ⟨q1, q2, q3, q4, q5, q6, q7, q8⟩ := id hSw; go_simp; (try with_reducible rfl)
  try simp only [Act.put, List.setIfInBounds_toArray, List.set_cons_zero, List.set_cons_succ]
  refine q_want ?_ (by rfl) (fun wo hSw => ?_) ?_
  rotate_left
  · obtain ⟨q1, q2, q3, q4, q5, q6, q7, q8⟩ := id hSw; go_simp; (try with_reducible rfl)
  try simp only [Act.put, List.setIfInBounds_toArray, List.set_cons_zero, List.set_cons_succ]
  refine q_want ?_ (by rfl) (fun wo hSw => ?_) ?_
  rotate_left
  · obtain ⟨q1, q2, q3, q4, q5, q6, q7, q8⟩ := id hSw; go_simp; (try with_reducible rfl)
  try simp only [Act.put, List.setIfInBounds_toArray, List.set_cons_zero, List.set_cons_succ]
  refine q_want ?_ (by rfl) (fun wo hSw => ?_) ?_
  rotate_left
  · obtain ⟨q1, q2, q3, q4, q5, q6, q7, q8⟩ := id hSw; go_simp; (try with_reducible rfl)
  try simp only [Act.put, List.setIfInBounds_toArray, List.set_cons_zero, List.set_cons_succ]
  refine q_want ?_ (by rfl) (fun wo hSw => ?_) ?_
  rotate_left
  · obtain ⟨q1, q2, q3, q4, q5, q6, q7, q8⟩ := id hSw; go_simp; (try with_reducible rfl)
  try simp only [Act.put, List.setIfInBounds_toArray, List.set_cons_zero, List.set_cons_succ]
  refine q_want (B6 c0 c1 c2 c3 c4 c5) (by rfl) (fun wo hSw => ?_) ?_
  · obtain ⟨q1, q2, q3, q4, q5, q6, q7, q8⟩ := id hSw; go_simp; (go_at_call 31; ((with_reducible refine (J1.out _).mono ?_); rintro e w9 ⟨rfl, hb9⟩; exact ⟨rfl, blk_later (by simp) hb9 q1, blk_later (by simp) hb9 q2, blk_later (by simp) hb9 q3, blk_later (by simp) hb9 q4, blk_later (by simp) hb9 q5, pts_later hb9 q6, pts_later hb9 q7, bstep hb9 q8⟩))
  try simp only [Act.put, List.setIfInBounds_toArray, List.set_cons_zero, List.set_cons_succ]
  refine q_want ?_ (by rfl) (fun wo hSw => ?_) ?_
  rotate_left
  · obtain ⟨q1, q2, q3, q4, q5, q6, q7, q8⟩ := id hSw; go_simp; (try with_reducible rfl)
  try simp only [Act.put, List.setIfInBounds_toArray, List.set_cons_zero, List.set_cons_succ]
  refine q_want ?_ (by rfl) (fun wo hSw => ?_) ?_
  rotate_left
  · obtain ⟨q1, q2, q3, q4, q5, q6, q7, q8⟩ := id hSw; go_simp; (try with_reducible rfl)
  try simp only [Act.put, List.setIfInBounds_toArray, List.set_cons_zero, List.set_cons_succ]
  refine q_want (B6 c0 c1 c2 c3 c4 c5) (by rfl) (fun wo hSw => ?_) ?_
  · obtain ⟨q1, q2, q3, q4, q5, q6, q7, q8⟩ := id hSw; go_simp; (go_at_call 32; ((with_reducible refine (J2.out _).mono ?_); rintro e w9 ⟨rfl, hb9⟩; exact ⟨rfl, blk_later (by simp) hb9 q1, blk_later (by simp) hb9 q2, blk_later (by simp) hb9 q3, blk_later (by simp) hb9 q4, blk_later (by simp) hb9 q5, pts_later hb9 q6, pts_later hb9 q7, bstep hb9 q8⟩))
  try simp only [Act.put, List.setIfInBounds_toArray, List.set_cons_zero, List.set_cons_succ]
  refine q_want ?_ (by rfl) (fun wo hSw => ?_) ?_
  rotate_left
  · obtain ⟨q1, q2, q3, q4, q5, q6, q7, q8⟩ := id hSw; go_simp; (try with_reducible rfl)
  try simp only [Act.put, List.setIfInBounds_toArray, List.set_cons_zero, List.set_cons_succ]
  refine q_want ?_ (by rfl) (fun wo hSw => ?_) ?_
  rotate_left
  · obtain ⟨q1, q2, q3, q4, q5, q6, q7, q8⟩ := id hSw; go_simp; (try with_reducible rfl)
  try simp only [Act.put, List.setIfInBounds_toArray, List.set_cons_zero, List.set_cons_succ]
  refine q_want ?_ (by rfl) (fun wo hSw => ?_) ?_
  rotate_left
  · obtain ⟨q1, q2, q3, q4, q5, q6, q7, q8⟩ := id hSw; go_simp; (try with_reducible rfl)
  try simp only [Act.put, List.setIfInBounds_toArray, List.set_cons_zero, List.set_cons_succ]
  refine q_want ?_ (by rfl) (fun wo hSw => ?_) ?_
  rotate_left
  · obtain ⟨q1, q2, q3, q4, q5, q6, q7, q8⟩ := id hSw; go_simp; (try with_reducible rfl)
  try simp only [Act.put, List.setIfInBounds_toArray, List.set_cons_zero, List.set_cons_succ]
  refine q_want ?_ (by rfl) (fun wo hSw => ?_) ?_
  rotate_left
  · obtain ⟨q1, q2, q3, q4, q5, q6, q7, q8⟩ := id hSw; go_simp; (try with_reducible rfl)
  try simp only [Act.put, List.setIfInBounds_toArray, List.set_cons_zero, List.set_cons_succ]
  refine q_want (.bool hb) (by rfl) (fun wo hSw => ?_) ?_
  · obtain ⟨q1, q2, q3, q4, q5, q6, q7, q8⟩ := id hSw; go_simp; (go_at_call 33; ((with_reducible refine (H1.out _).mono ?_); rintro e w9 ⟨rfl, hb9⟩; exact ⟨rfl, blk_later (by simp) hb9 q1, blk_later (by simp) hb9 q2, blk_later (by simp) hb9 q3, blk_later (by simp) hb9 q4, blk_later (by simp) hb9 q5, pts_later hb9 q6, pts_later hb9 q7, bstep hb9 q8⟩))
  try simp only [Act.put, List.setIfInBounds_toArray, List.set_cons_zero, List.set_cons_succ]
  refine q_want ?_ (by rfl) (fun wo hSw => ?_) ?_
  rotate_left
  · obtain ⟨q1, q2, q3, q4, q5, q6, q7, q8⟩ := id hSw; go_simp; (try with_reducible rfl)
  try simp only [Act.put, List.setIfInBounds_toArray, List.set_cons_zero, List.set_cons_succ]
  refine q_want ?_ (by rfl) (fun wo hSw => ?_) ?_
  rotate_left
  · obtain ⟨q1, q2, q3, q4, q5, q6, q7, q8⟩ := id hSw; go_simp; (try with_reducible rfl)
  try simp only [Act.put, List.setIfInBounds_toArray, List.set_cons_zero, List.set_cons_succ]
  refine q_want (.bool hb) (by rfl) (fun wo hSw => ?_) ?_
  · obtain ⟨q1, q2, q3, q4, q5, q6, q7, q8⟩ := id hSw; go_simp; (go_at_call 34; ((with_reducible refine (H2.out _).mono ?_); rintro e w9 ⟨rfl, hb9⟩; exact ⟨rfl, blk_later (by simp) hb9 q1, blk_later (by simp) hb9 q2, blk_later (by simp) hb9 q3, blk_later (by simp) hb9 q4, blk_later (by simp) hb9 q5, pts_later hb9 q6, pts_later hb9 q7, bstep hb9 q8⟩))
  try simp only [Act.put, List.setIfInBounds_toArray, List.set_cons_zero, List.set_cons_succ]
  refine q_want ?_ (by rfl) (fun wo hSw => ?_) ?_
  rotate_left
  · obtain ⟨q1, q2, q3, q4, q5, q6, q7, q8⟩ := id hSw; go_simp; (try with_reducible rfl)
  try simp only [Act.put, List.setIfInBounds_toArray, List.set_cons_zero, List.set_cons_succ]
  refine q_want ?_ (by rfl) (fun wo hSw => ?_) ?_
  rotate_left
  · obtain ⟨q1, q2, q3, q4, q5, q6, q7, q8⟩ := id hSw; go_simp; (try with_reducible rfl)
  try simp only [Act.put, List.setIfInBounds_toArray, List.set_cons_zero, List.set_cons_succ]
  refine q_want ?_ (by rfl) (fun wo hSw => ?_) ?_
  rotate_left
  · obtain ⟨q1, q2, q3, q4, q5, q6, q7, q8⟩ := id hSw; go_simp; (try with_reducible rfl)
  try simp only [Act.put, List.setIfInBounds_toArray, List.set_cons_zero, List.set_cons_succ]
  refine q_want ?_ (by rfl) (fun wo hSw => ?_) ?_
  rotate_left
  · obtain ⟨q1, q2, q3, q4, q5, q6, q7, q8⟩ := id hSw; go_simp; (try with_reducible rfl)
  try simp only [Act.put, List.setIfInBounds_toArray, List.set_cons_zero, List.set_cons_succ]
  refine q_want ?_ (by rfl) (fun wo hSw => ?_) ?_
  rotate_left
  · obtain ⟨q1, q2, q3, q4, q5, q6, q7, q8⟩ := id hSw; go_simp; (try with_reducible rfl)
  try simp only [Act.put, List.setIfInBounds_toArray, List.set_cons_zero, List.set_cons_succ]
  refine q_want (.bool true) (by rfl) (fun wo hSw => ?_) ?_
  · obtain ⟨q1, q2, q3, q4, q5, q6, q7, q8⟩ := id hSw; go_simp; (go_at_call 35; ((with_reducible refine (same_vs n _ _ X _ q6 q7).mono ?_); rintro e w9 ⟨rfl, hb9⟩; exact ⟨rfl, blk_later (by simp) hb9 q1, blk_later (by simp) hb9 q2, blk_later (by simp) hb9 q3, blk_later (by simp) hb9 q4, blk_later (by simp) hb9 q5, pts_later hb9 q6, pts_later hb9 q7, bstep hb9 q8⟩))
  try simp only [Act.put, List.setIfInBounds_toArray, List.set_cons_zero, List.set_cons_succ]
  refine q_want ?_ (by rfl) (fun wo hSw => ?_) ?_
  rotate_left
  · obtain ⟨q1, q2, q3, q4, q5, q6, q7, q8⟩ := id hSw; go_simp; (try with_reducible rfl)
  try simp only [Act.put, List.setIfInBounds_toArray, List.set_cons_zero, List.set_cons_succ]
  refine q_want ?_ (by rfl) (fun wo hSw => ?_) ?_
  rotate_left
  · obtain ⟨q1, q2, q3, q4, q5, q6, q7, q8⟩ := id hSw; go_simp; (try with_reducible rfl)
  try simp only [Act.put, List.setIfInBounds_toArray, List.set_cons_zero, List.set_cons_succ]
  refine wpQuiet_nil ?_
  intro wq hSq
  obtain ⟨_, _, _, _, _, _, _, hB⟩ := hSq
  have HB := Lib.hid hB
  clear hB
  go_wp2_with fail
  have HB' := HB.out
  go_returns
  exact ⟨by simp, by (repeat' (first | (with_reducible exact Below.refl _ _) | (with_reducible refine bstep (by with_reducible assumption) ?_) | (with_reducible refine Below.alloc ?_ ?_ _) | (with_reducible refine Below.drew ?_) | (with_reducible refine below_drewN ?_ _) | (with_reducible refine Below.setCell ?_ ?_ _) | go_size))⟩
theorem vecBoxes_flat (v : Value) (n : Nat) (X : Nat → Int) (_ : ∀ o, I64 (X o)) (a0 a1 a2 a3 a4 a5 b0 b1 b2 b3 b4 b5 x y z : Int) (w : World) (hv : Pts w v n X) :
    Calls Try.prog 9 #[v, B6 a0 a1 a2 a3 a4 a5, B6 b0 b1 b2 b3 b4 b5, V3 x y z] w fun e w' => e = .returned (.bool true) ∧ Below w.heap.size w w' := by
  by_cases hn : 2000 < n
  · exact vx_far v n X a0 a1 a2 a3 a4 a5 b0 b1 b2 b3 b4 b5 x y z hn w hv
  by_cases h0 : n = 0
  · subst h0
    rcases hv with ⟨_, p, c, rfl⟩ | ⟨b, off, c, rfl, h, _⟩
    · refine vx_near 0 p c X (by omega) false 0 0 0 0 0 0 a0 a1 a2 a3 a4 a5 b0 b1 b2 b3 b4 b5 x y z w (.inl ⟨rfl, p, c, rfl⟩) (fun w' _ => (copy_none p c w').mono ?_) (fun u w' h => ?_) (fun u w' h => ?_)
      · rintro e w'' ⟨q, d, rfl, hb⟩
        exact ⟨_, rfl, .inl ⟨rfl, q, d, rfl⟩, hb⟩
      · rcases h with ⟨_, q, d, rfl⟩ | ⟨b, off, c, rfl, h, _⟩
        · exact bound_none q d w'
        · omega
      · rcases h with ⟨_, q, d, rfl⟩ | ⟨b, off, c, rfl, h, _⟩
        · exact rbound_none q d w'
        · omega
    · omega
  · rcases hv with ⟨h, _⟩ | ⟨b, off, c, rfl, g1, g2, g3, g4, g5⟩
    · exact absurd h h0
    · refine vx_near n _ c X (by omega) true _ _ _ _ _ _ a0 a1 a2 a3 a4 a5 b0 b1 b2 b3 b4 b5 x y z w (.inr ⟨b, off, c, rfl, g1, g2, g3, g4, g5⟩) (fun w' hb => (copy_any n b off c X (by omega) g1 g2 g3 w' (Nat.lt_of_lt_of_le g4 hb.size) (fun o ho => (hb.cell (p := ⟨b, off + o, none⟩) g4).trans (g5 o ho))).mono ?_) (fun u w' h => bound_some n u X (by omega) w' h) (fun u w' h => rbound_some n u X (by omega) w' h)
      rintro e w'' ⟨g, cap, rfl, hg, hPt, hb4, _, _⟩
      exact ⟨_, rfl, hPt, hb4⟩
theorem vecBoxes_walk (v : Value) (n : Nat) (X : Nat → Int) (hX : ∀ o, I64 (X o)) (xs : List Int) (hl : xs.length = 6) (_ : ∀ x ∈ xs, I64 x) (ys : List Int) (hm : ys.length = 6) (_ : ∀ x ∈ ys, I64 x) (x y z : Int) (_ : I64 x) (_ : I64 y) (_ : I64 z) (w : World) (hv : Pts w v n X) :
    Calls Try.prog 9 #[v, .agg (xs.map (Value.int .i64)).toArray, .agg (ys.map (Value.int .i64)).toArray, V3 x y z] w fun e w' => e = .returned (.bool true) ∧ Below w.heap.size w w' := by
  match xs, hl, ys, hm with
  | [a0, a1, a2, a3, a4, a5], _, [b0, b1, b2, b3, b4, b5], _ => exact vecBoxes_flat v n X hX a0 a1 a2 a3 a4 a5 b0 b1 b2 b3 b4 b5 x y z w hv
end Go.Proofs.Ytodgnpggcdjgaaa
