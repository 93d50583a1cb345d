/- What relievoref12.size, Length and Edge answer: contracts, for all points of 64 bits. -/
import Derived.Test.YtodgnpggcdjgaaaRateB
import Derived.Test.YtodgnpggcdjgaaaRef00
import Derived.Test.YtodgnpggcdjgaaaQuiet
namespace Go.Proofs.Ytodgnpggcdjgaaa
open Go.RowKit
set_option maxRecDepth 100000
set_option linter.unusedSimpArgs false
set_option linter.unusedVariables false
theorem size_any (x : Int) (hx : -131072 ≤ x ∧ x ≤ 131072) (w : World) :
    Calls Try.prog 43 #[.int .i64 x] w fun e w' => e = .returned (.int .i64 (mx x (-x))) ∧ Below w.heap.size w w' := by
  obtain ⟨h1, h2⟩ := hx
  by_cases h : x < 0
  · have h' : decide (x < 0) = true := decide_eq_true h
    rw [show mx x (-x) = -x by unfold mx; split <;> omega]
    go_enter Try.func43, Try.ntmps43
    go_wp2_with fail
    go_returns
    exact ⟨by simp, by go_grown⟩
  · have h' : decide (x < 0) = false := decide_eq_false h
    rw [show mx x (-x) = x by unfold mx; split <;> omega]
    go_enter Try.func43, Try.ntmps43
    go_wp2_with fail
    go_returns
    exact ⟨by simp, by go_grown⟩
theorem size_in (x s : Int) (hx : -131072 ≤ x ∧ x ≤ 131072) (h : mx x (-x) = s) : ∀ w, Calls Try.prog 43 #[.int .i64 x] w fun e w' => e = .returned (.int .i64 s) ∧ Below w.heap.size w w' := by
  subst h; exact size_any x hx
/-- The class of worlds of a quiet walk: a block's cells are as they were, and only new memory was made. -/
def Cl1 (b : Nat) (cs : Array Value) (w w' : World) : Prop := (∀ o, w'.cell? ⟨b, o, none⟩ = cs[o]?) ∧ Below w.heap.size w w'
/-- Where the first loop stands. -/
def LnRel (g b : Nat) (cs : Array Value) (w : World) (k : Nat) (i : Value) (wr : World) : Prop :=
  ((k = 4 ∧ i = .int .i64 0 ∧ 0 ≤ g) ∨ (k = 3 ∧ i = .int .i64 1 ∧ 1 ≤ g) ∨ (k = 2 ∧ i = .int .i64 2 ∧ 2 ≤ g) ∨ (k = 1 ∧ i = .int .i64 3 ∧ 3 ≤ g) ∨ (k = 0 ∧ i = .int .i64 4 ∧ 4 ≤ g)) ∧ (∀ o, wr.cell? ⟨b, o, none⟩ = cs[o]?) ∧ b < wr.heap.size ∧ Below b w wr
/-- Where the second loop stands: the length so far. -/
def LsRel (b : Nat) (cs : Array Value) (s1 s2 s3 s4 : Int) (w : World) (k : Nat) (n i : Value) (wr : World) : Prop :=
  ((k = 3 ∧ i = .int .i64 1 ∧ n = .int .i64 s1) ∨ (k = 2 ∧ i = .int .i64 2 ∧ n = .int .i64 s2) ∨ (k = 1 ∧ i = .int .i64 3 ∧ n = .int .i64 s3) ∨ (k = 0 ∧ i = .int .i64 4 ∧ n = .int .i64 s4)) ∧ (∀ o, wr.cell? ⟨b, o, none⟩ = cs[o]?) ∧ b < wr.heap.size ∧ Below b w wr
set_option maxHeartbeats 4000000 in
theorem rlen_4 (x0 y0 z0 x1 y1 z1 x2 y2 z2 x3 y3 z3 : Int) (w : World) (h0 : inB x0 y0 z0 65536 = true) (h1 : inB x1 y1 z1 65536 = true) (h2 : inB x2 y2 z2 65536 = true) (h3 : inB x3 y3 z3 65536 = true) :
    Calls Try.prog 36 #[.agg (C12 x0 y0 z0 x1 y1 z1 x2 y2 z2 x3 y3 z3)] w fun e w' => e = .returned (.tuple #[.int .i64 (lenF x0 y0 z0 x1 y1 z1 x2 y2 z2 x3 y3 z3), .bool true]) ∧ Below w.heap.size w w' := by
  have W0 : Hid (∀ w, Calls Try.prog 42 #[V3 x0 y0 z0, .int .i64 65536] w fun e w' => e = .returned (.bool true) ∧ Below w.heap.size w w') := by
    intro w; have := within0_any x0 y0 z0 65536 w; rw [h0] at this; exact this
  have W1 : Hid (∀ w, Calls Try.prog 42 #[V3 x1 y1 z1, .int .i64 65536] w fun e w' => e = .returned (.bool true) ∧ Below w.heap.size w w') := by
    intro w; have := within0_any x1 y1 z1 65536 w; rw [h1] at this; exact this
  have W2 : Hid (∀ w, Calls Try.prog 42 #[V3 x2 y2 z2, .int .i64 65536] w fun e w' => e = .returned (.bool true) ∧ Below w.heap.size w w') := by
    intro w; have := within0_any x2 y2 z2 65536 w; rw [h2] at this; exact this
  have W3 : Hid (∀ w, Calls Try.prog 42 #[V3 x3 y3 z3, .int .i64 65536] w fun e w' => e = .returned (.bool true) ∧ Below w.heap.size w w') := by
    intro w; have := within0_any x3 y3 z3 65536 w; rw [h3] at this; exact this
  rw [inB_iff (by omega) (by omega)] at h0
  rw [inB_iff (by omega) (by omega)] at h1
  rw [inB_iff (by omega) (by omega)] at h2
  rw [inB_iff (by omega) (by omega)] at h3
  obtain ⟨dx1, ex1⟩ : ∃ d, x1 - x0 = d := ⟨_, rfl⟩
  have qx1 : IntKind.i64.wrap (x1 - x0) = dx1 := by rw [ex1]; exact IntWalk.i64_in _ (by omega)
  obtain ⟨sx1, fx1⟩ : ∃ s, mx dx1 (-dx1) = s := ⟨_, rfl⟩
  have bx1 : 0 ≤ sx1 ∧ sx1 ≤ 131072 := by rw [← fx1]; unfold mx; split <;> omega
  have Kx1 := Lib.hid (size_in dx1 sx1 (by omega) fx1)
  obtain ⟨dy1, ey1⟩ : ∃ d, y1 - y0 = d := ⟨_, rfl⟩
  have qy1 : IntKind.i64.wrap (y1 - y0) = dy1 := by rw [ey1]; exact IntWalk.i64_in _ (by omega)
  obtain ⟨sy1, fy1⟩ : ∃ s, mx dy1 (-dy1) = s := ⟨_, rfl⟩
  have by1 : 0 ≤ sy1 ∧ sy1 ≤ 131072 := by rw [← fy1]; unfold mx; split <;> omega
  have Ky1 := Lib.hid (size_in dy1 sy1 (by omega) fy1)
  obtain ⟨dz1, ez1⟩ : ∃ d, z1 - z0 = d := ⟨_, rfl⟩
  have qz1 : IntKind.i64.wrap (z1 - z0) = dz1 := by rw [ez1]; exact IntWalk.i64_in _ (by omega)
  obtain ⟨sz1, fz1⟩ : ∃ s, mx dz1 (-dz1) = s := ⟨_, rfl⟩
  have bz1 : 0 ≤ sz1 ∧ sz1 ≤ 131072 := by rw [← fz1]; unfold mx; split <;> omega
  have Kz1 := Lib.hid (size_in dz1 sz1 (by omega) fz1)
  obtain ⟨dx2, ex2⟩ : ∃ d, x2 - x1 = d := ⟨_, rfl⟩
  have qx2 : IntKind.i64.wrap (x2 - x1) = dx2 := by rw [ex2]; exact IntWalk.i64_in _ (by omega)
  obtain ⟨sx2, fx2⟩ : ∃ s, mx dx2 (-dx2) = s := ⟨_, rfl⟩
  have bx2 : 0 ≤ sx2 ∧ sx2 ≤ 131072 := by rw [← fx2]; unfold mx; split <;> omega
  have Kx2 := Lib.hid (size_in dx2 sx2 (by omega) fx2)
  obtain ⟨dy2, ey2⟩ : ∃ d, y2 - y1 = d := ⟨_, rfl⟩
  have qy2 : IntKind.i64.wrap (y2 - y1) = dy2 := by rw [ey2]; exact IntWalk.i64_in _ (by omega)
  obtain ⟨sy2, fy2⟩ : ∃ s, mx dy2 (-dy2) = s := ⟨_, rfl⟩
  have by2 : 0 ≤ sy2 ∧ sy2 ≤ 131072 := by rw [← fy2]; unfold mx; split <;> omega
  have Ky2 := Lib.hid (size_in dy2 sy2 (by omega) fy2)
  obtain ⟨dz2, ez2⟩ : ∃ d, z2 - z1 = d := ⟨_, rfl⟩
  have qz2 : IntKind.i64.wrap (z2 - z1) = dz2 := by rw [ez2]; exact IntWalk.i64_in _ (by omega)
  obtain ⟨sz2, fz2⟩ : ∃ s, mx dz2 (-dz2) = s := ⟨_, rfl⟩
  have bz2 : 0 ≤ sz2 ∧ sz2 ≤ 131072 := by rw [← fz2]; unfold mx; split <;> omega
  have Kz2 := Lib.hid (size_in dz2 sz2 (by omega) fz2)
  obtain ⟨dx3, ex3⟩ : ∃ d, x3 - x2 = d := ⟨_, rfl⟩
  have qx3 : IntKind.i64.wrap (x3 - x2) = dx3 := by rw [ex3]; exact IntWalk.i64_in _ (by omega)
  obtain ⟨sx3, fx3⟩ : ∃ s, mx dx3 (-dx3) = s := ⟨_, rfl⟩
  have bx3 : 0 ≤ sx3 ∧ sx3 ≤ 131072 := by rw [← fx3]; unfold mx; split <;> omega
  have Kx3 := Lib.hid (size_in dx3 sx3 (by omega) fx3)
  obtain ⟨dy3, ey3⟩ : ∃ d, y3 - y2 = d := ⟨_, rfl⟩
  have qy3 : IntKind.i64.wrap (y3 - y2) = dy3 := by rw [ey3]; exact IntWalk.i64_in _ (by omega)
  obtain ⟨sy3, fy3⟩ : ∃ s, mx dy3 (-dy3) = s := ⟨_, rfl⟩
  have by3 : 0 ≤ sy3 ∧ sy3 ≤ 131072 := by rw [← fy3]; unfold mx; split <;> omega
  have Ky3 := Lib.hid (size_in dy3 sy3 (by omega) fy3)
  obtain ⟨dz3, ez3⟩ : ∃ d, z3 - z2 = d := ⟨_, rfl⟩
  have qz3 : IntKind.i64.wrap (z3 - z2) = dz3 := by rw [ez3]; exact IntWalk.i64_in _ (by omega)
  obtain ⟨sz3, fz3⟩ : ∃ s, mx dz3 (-dz3) = s := ⟨_, rfl⟩
  have bz3 : 0 ≤ sz3 ∧ sz3 ≤ 131072 := by rw [← fz3]; unfold mx; split <;> omega
  have Kz3 := Lib.hid (size_in dz3 sz3 (by omega) fz3)
  unfold lenF
  rw [ex1, ey1, ez1, ex2, ey2, ez2, ex3, ey3, ez3]
  obtain ⟨a1, ea1⟩ : ∃ a, wayF dx1 dy1 dz1 = a := ⟨_, rfl⟩
  rw [ea1]
  unfold wayF at ea1
  rw [fx1, fy1, fz1] at ea1
  have t1 : IntKind.i64.wrap (sx1 + sy1) = sx1 + sy1 := IntWalk.i64_in _ (by omega)
  have v1 : IntKind.i64.wrap (sx1 + sy1 + sz1) = a1 := by rw [ea1]; exact IntWalk.i64_in _ (by omega)
  have l1 : 0 ≤ a1 ∧ a1 ≤ 393216 := by omega
  obtain ⟨a2, ea2⟩ : ∃ a, wayF dx2 dy2 dz2 = a := ⟨_, rfl⟩
  rw [ea2]
  unfold wayF at ea2
  rw [fx2, fy2, fz2] at ea2
  have t2 : IntKind.i64.wrap (sx2 + sy2) = sx2 + sy2 := IntWalk.i64_in _ (by omega)
  have v2 : IntKind.i64.wrap (sx2 + sy2 + sz2) = a2 := by rw [ea2]; exact IntWalk.i64_in _ (by omega)
  have l2 : 0 ≤ a2 ∧ a2 ≤ 393216 := by omega
  obtain ⟨a3, ea3⟩ : ∃ a, wayF dx3 dy3 dz3 = a := ⟨_, rfl⟩
  rw [ea3]
  unfold wayF at ea3
  rw [fx3, fy3, fz3] at ea3
  have t3 : IntKind.i64.wrap (sx3 + sy3) = sx3 + sy3 := IntWalk.i64_in _ (by omega)
  have v3 : IntKind.i64.wrap (sx3 + sy3 + sz3) = a3 := by rw [ea3]; exact IntWalk.i64_in _ (by omega)
  have l3 : 0 ≤ a3 ∧ a3 ≤ 393216 := by omega
  have n4 : IntKind.i64.wrap a1 = a1 := IntWalk.i64_in _ (by omega)
  have n5 : IntKind.i64.wrap (a1 + a2) = a1 + a2 := IntWalk.i64_in _ (by omega)
  have n6 : IntKind.i64.wrap (a1 + a2 + a3) = a1 + a2 + a3 := IntWalk.i64_in _ (by omega)
  clear ex1 fx1 bx1
  clear ey1 fy1 by1
  clear ez1 fz1 bz1
  clear ea1 l1
  clear ex2 fx2 bx2
  clear ey2 fy2 by2
  clear ez2 fz2 bz2
  clear ea2 l2
  clear ex3 fx3 bx3
  clear ey3 fy3 by3
  clear ez3 fz3 bz3
  clear ea3 l3
  clear h0 h1 h2 h3
  have n0 : IntKind.i64.wrap 0 = 0 := by decide
  have n1 : IntKind.i64.wrap 1 = 1 := by decide
  have n2 : IntKind.i64.wrap 2 = 2 := by decide
  have n3 : IntKind.i64.wrap 3 = 3 := by decide
  go_enter Try.func36, Try.ntmps36
  go_wp2_with fail
  go_loopg [5] 4 (fun k i wr => LnRel 4 w.heap.size (C12 x0 y0 z0 x1 y1 z1 x2 y2 z2 x3 y3 z3) w k i wr)
  case atStart => exact ⟨.inl ⟨rfl, rfl, by omega⟩, fun o => by rw [World.cell?_alloc_new], by simp, (Below.refl _ _).alloc (Nat.le_refl _) _⟩
  case round =>
    obtain ⟨hk, hp, hlt, hB⟩ := hrel
    have HB := Lib.hid hB
    clear hB
    rcases hk with ⟨rfl, rfl, hg⟩ | ⟨rfl, rfl, hg⟩ | ⟨rfl, rfl, hg⟩ | ⟨rfl, rfl, hg⟩ | ⟨rfl, rfl, hg⟩
    · go_wp2_with (go_at_call 42; ((with_reducible refine (W0.out _).mono ?_); rintro e w3 ⟨rfl, hb3⟩; have hp3 := blk_later (by simp) hb3 hp))
      go_roundg 3
      case measure => omega
      case rel =>
        have HB' := HB.out
        exact ⟨.inr (.inl ⟨rfl, by simp, by omega⟩), hp3, World.block_lt_of_cell? _ _ (hp3 0), by (repeat' (first | (with_reducible exact Below.refl _ _) | (with_reducible refine bstep (by with_reducible assumption) ?_) | (with_reducible refine Below.alloc ?_ ?_ _) | (with_reducible refine Below.drew ?_) | (with_reducible refine below_drewN ?_ _) | (with_reducible refine Below.setCell ?_ ?_ _) | go_size))⟩
    · go_wp2_with (go_at_call 42; ((with_reducible refine (W1.out _).mono ?_); rintro e w3 ⟨rfl, hb3⟩; have hp3 := blk_later (by simp) hb3 hp))
      go_roundg 2
      case measure => omega
      case rel =>
        have HB' := HB.out
        exact ⟨.inr (.inr (.inl ⟨rfl, by simp, by omega⟩)), hp3, World.block_lt_of_cell? _ _ (hp3 0), by (repeat' (first | (with_reducible exact Below.refl _ _) | (with_reducible refine bstep (by with_reducible assumption) ?_) | (with_reducible refine Below.alloc ?_ ?_ _) | (with_reducible refine Below.drew ?_) | (with_reducible refine below_drewN ?_ _) | (with_reducible refine Below.setCell ?_ ?_ _) | go_size))⟩
    · go_wp2_with (go_at_call 42; ((with_reducible refine (W2.out _).mono ?_); rintro e w3 ⟨rfl, hb3⟩; have hp3 := blk_later (by simp) hb3 hp))
      go_roundg 1
      case measure => omega
      case rel =>
        have HB' := HB.out
        exact ⟨.inr (.inr (.inr (.inl ⟨rfl, by simp, by omega⟩))), hp3, World.block_lt_of_cell? _ _ (hp3 0), by (repeat' (first | (with_reducible exact Below.refl _ _) | (with_reducible refine bstep (by with_reducible assumption) ?_) | (with_reducible refine Below.alloc ?_ ?_ _) | (with_reducible refine Below.drew ?_) | (with_reducible refine below_drewN ?_ _) | (with_reducible refine Below.setCell ?_ ?_ _) | go_size))⟩
    · go_wp2_with (go_at_call 42; ((with_reducible refine (W3.out _).mono ?_); rintro e w3 ⟨rfl, hb3⟩; have hp3 := blk_later (by simp) hb3 hp))
      go_roundg 0
      case measure => omega
      case rel =>
        have HB' := HB.out
        exact ⟨.inr (.inr (.inr (.inr (⟨rfl, by simp, by omega⟩)))), hp3, World.block_lt_of_cell? _ _ (hp3 0), by (repeat' (first | (with_reducible exact Below.refl _ _) | (with_reducible refine bstep (by with_reducible assumption) ?_) | (with_reducible refine Below.alloc ?_ ?_ _) | (with_reducible refine Below.drew ?_) | (with_reducible refine below_drewN ?_ _) | (with_reducible refine Below.setCell ?_ ?_ _) | go_size))⟩
    · go_wp2_with fail
      go_loopg [4, 6] 3 (fun k n i wr => LsRel w.heap.size (C12 x0 y0 z0 x1 y1 z1 x2 y2 z2 x3 y3 z3) 0 a1 (a1 + a2) (a1 + a2 + a3) w k n i wr)
      case atStart => exact ⟨.inl ⟨rfl, rfl, rfl⟩, hp, hlt, HB.out⟩
      case round =>
        obtain ⟨hk, hp', hlt', hB⟩ := hrel
        have HB2 := Lib.hid hB
        clear hB hp hlt HB
        rcases hk with ⟨rfl, rfl, rfl⟩ | ⟨rfl, rfl, rfl⟩ | ⟨rfl, rfl, rfl⟩ | ⟨rfl, rfl, rfl⟩
        · go_wp2_with fail
          refine region_quiet (Cl1 w.heap.size (C12 x0 y0 z0 x1 y1 z1 x2 y2 z2 x3 y3 z3) w) (by kernel_rfl) (by kernel_rfl) ?_ ?_
          · (try dsimp only); (exact ⟨hp', HB2.out.drew⟩)
          refine q_want ?_ (by rfl) (fun w hSw => ?_) ?_
          rotate_left
          · obtain ⟨q1, q2⟩ := id hSw; go_simp; (try with_reducible rfl)
          try simp only [Act.put, List.setIfInBounds_toArray, List.set_cons_zero, List.set_cons_succ]
          refine q_want ?_ (by rfl) (fun w hSw => ?_) ?_
          rotate_left
          · obtain ⟨q1, q2⟩ := id hSw; go_simp; (try with_reducible rfl)
          try simp only [Act.put, List.setIfInBounds_toArray, List.set_cons_zero, List.set_cons_succ]
          refine q_want ?_ (by rfl) (fun w hSw => ?_) ?_
          rotate_left
          · obtain ⟨q1, q2⟩ := id hSw; go_simp; (try with_reducible rfl)
          try simp only [Act.put, List.setIfInBounds_toArray, List.set_cons_zero, List.set_cons_succ]
          refine q_want ?_ (by rfl) (fun w hSw => ?_) ?_
          rotate_left
          · obtain ⟨q1, q2⟩ := id hSw; go_simp; (try with_reducible rfl)
          try simp only [Act.put, List.setIfInBounds_toArray, List.set_cons_zero, List.set_cons_succ]
          refine q_want ?_ (by rfl) (fun w hSw => ?_) ?_
          rotate_left
          · obtain ⟨q1, q2⟩ := id hSw; go_simp; (try with_reducible rfl)
          try simp only [Act.put, List.setIfInBounds_toArray, List.set_cons_zero, List.set_cons_succ]
          refine q_want ?_ (by rfl) (fun w hSw => ?_) ?_
          rotate_left
          · obtain ⟨q1, q2⟩ := id hSw; go_simp; (try with_reducible rfl)
          try simp only [Act.put, List.setIfInBounds_toArray, List.set_cons_zero, List.set_cons_succ]
          refine q_want ?_ (by rfl) (fun w hSw => ?_) ?_
          rotate_left
          · obtain ⟨q1, q2⟩ := id hSw; go_simp; (try with_reducible rfl)
          try simp only [Act.put, List.setIfInBounds_toArray, List.set_cons_zero, List.set_cons_succ]
          refine q_want ?_ (by rfl) (fun w hSw => ?_) ?_
          rotate_left
          · obtain ⟨q1, q2⟩ := id hSw; go_simp; (try with_reducible rfl)
          try simp only [Act.put, List.setIfInBounds_toArray, List.set_cons_zero, List.set_cons_succ]
          refine q_want ?_ (by rfl) (fun w hSw => ?_) ?_
          rotate_left
          · obtain ⟨q1, q2⟩ := id hSw; go_simp; (try with_reducible rfl)
          try simp only [Act.put, List.setIfInBounds_toArray, List.set_cons_zero, List.set_cons_succ]
          refine q_want ?_ (by rfl) (fun w hSw => ?_) ?_
          rotate_left
          · obtain ⟨q1, q2⟩ := id hSw; go_simp; (try with_reducible rfl)
          try simp only [Act.put, List.setIfInBounds_toArray, List.set_cons_zero, List.set_cons_succ]
          refine q_want ?_ (by rfl) (fun w hSw => ?_) ?_
          rotate_left
          · obtain ⟨q1, q2⟩ := id hSw; go_simp; (try with_reducible rfl)
          try simp only [Act.put, List.setIfInBounds_toArray, List.set_cons_zero, List.set_cons_succ]
          refine q_want (.int .i64 sx1) (by rfl) (fun w hSw => ?_) ?_
          · obtain ⟨q1, q2⟩ := id hSw; go_simp; (go_at_call 43; ((with_reducible refine (Kx1.out _).mono ?_); rintro e w4 ⟨rfl, hb4⟩; exact ⟨rfl, blk_later (by simp) hb4 q1, bstep hb4 q2⟩))
          try simp only [Act.put, List.setIfInBounds_toArray, List.set_cons_zero, List.set_cons_succ]
          refine q_want ?_ (by rfl) (fun w hSw => ?_) ?_
          rotate_left
          · obtain ⟨q1, q2⟩ := id hSw; go_simp; (try with_reducible rfl)
          try simp only [Act.put, List.setIfInBounds_toArray, List.set_cons_zero, List.set_cons_succ]
          refine q_want ?_ (by rfl) (fun w hSw => ?_) ?_
          rotate_left
          · obtain ⟨q1, q2⟩ := id hSw; go_simp; (try with_reducible rfl)
          try simp only [Act.put, List.setIfInBounds_toArray, List.set_cons_zero, List.set_cons_succ]
          refine q_want ?_ (by rfl) (fun w hSw => ?_) ?_
          rotate_left
          · obtain ⟨q1, q2⟩ := id hSw; go_simp; (try with_reducible rfl)
          try simp only [Act.put, List.setIfInBounds_toArray, List.set_cons_zero, List.set_cons_succ]
          refine q_want ?_ (by rfl) (fun w hSw => ?_) ?_
          rotate_left
          · obtain ⟨q1, q2⟩ := id hSw; go_simp; (try with_reducible rfl)
          try simp only [Act.put, List.setIfInBounds_toArray, List.set_cons_zero, List.set_cons_succ]
          refine q_want ?_ (by rfl) (fun w hSw => ?_) ?_
          rotate_left
          · obtain ⟨q1, q2⟩ := id hSw; go_simp; (try with_reducible rfl)
          try simp only [Act.put, List.setIfInBounds_toArray, List.set_cons_zero, List.set_cons_succ]
          refine q_want ?_ (by rfl) (fun w hSw => ?_) ?_
          rotate_left
          · obtain ⟨q1, q2⟩ := id hSw; go_simp; (try with_reducible rfl)
          try simp only [Act.put, List.setIfInBounds_toArray, List.set_cons_zero, List.set_cons_succ]
          refine q_want ?_ (by rfl) (fun w hSw => ?_) ?_
          rotate_left
          · obtain ⟨q1, q2⟩ := id hSw; go_simp; (try with_reducible rfl)
          try simp only [Act.put, List.setIfInBounds_toArray, List.set_cons_zero, List.set_cons_succ]
          refine q_want ?_ (by rfl) (fun w hSw => ?_) ?_
          rotate_left
          · obtain ⟨q1, q2⟩ := id hSw; go_simp; (try with_reducible rfl)
          try simp only [Act.put, List.setIfInBounds_toArray, List.set_cons_zero, List.set_cons_succ]
          refine q_want ?_ (by rfl) (fun w hSw => ?_) ?_
          rotate_left
          · obtain ⟨q1, q2⟩ := id hSw; go_simp; (try with_reducible rfl)
          try simp only [Act.put, List.setIfInBounds_toArray, List.set_cons_zero, List.set_cons_succ]
          refine q_want ?_ (by rfl) (fun w hSw => ?_) ?_
          rotate_left
          · obtain ⟨q1, q2⟩ := id hSw; go_simp; (try with_reducible rfl)
          try simp only [Act.put, List.setIfInBounds_toArray, List.set_cons_zero, List.set_cons_succ]
          refine q_want (.int .i64 sy1) (by rfl) (fun w hSw => ?_) ?_
          · obtain ⟨q1, q2⟩ := id hSw; go_simp; (go_at_call 43; ((with_reducible refine (Ky1.out _).mono ?_); rintro e w4 ⟨rfl, hb4⟩; exact ⟨rfl, blk_later (by simp) hb4 q1, bstep hb4 q2⟩))
          try simp only [Act.put, List.setIfInBounds_toArray, List.set_cons_zero, List.set_cons_succ]
          refine q_want ?_ (by rfl) (fun w hSw => ?_) ?_
          rotate_left
          · obtain ⟨q1, q2⟩ := id hSw; go_simp; (try with_reducible rfl)
          try simp only [Act.put, List.setIfInBounds_toArray, List.set_cons_zero, List.set_cons_succ]
          refine q_want ?_ (by rfl) (fun w hSw => ?_) ?_
          rotate_left
          · obtain ⟨q1, q2⟩ := id hSw; go_simp; (try with_reducible rfl)
          try simp only [Act.put, List.setIfInBounds_toArray, List.set_cons_zero, List.set_cons_succ]
          refine q_want ?_ (by rfl) (fun w hSw => ?_) ?_
          rotate_left
          · obtain ⟨q1, q2⟩ := id hSw; go_simp; (try with_reducible rfl)
          try simp only [Act.put, List.setIfInBounds_toArray, List.set_cons_zero, List.set_cons_succ]
          refine q_want ?_ (by rfl) (fun w hSw => ?_) ?_
          rotate_left
          · obtain ⟨q1, q2⟩ := id hSw; go_simp; (try with_reducible rfl)
          try simp only [Act.put, List.setIfInBounds_toArray, List.set_cons_zero, List.set_cons_succ]
          refine q_want ?_ (by rfl) (fun w hSw => ?_) ?_
          rotate_left
          · obtain ⟨q1, q2⟩ := id hSw; go_simp; (try with_reducible rfl)
          try simp only [Act.put, List.setIfInBounds_toArray, List.set_cons_zero, List.set_cons_succ]
          refine q_want ?_ (by rfl) (fun w hSw => ?_) ?_
          rotate_left
          · obtain ⟨q1, q2⟩ := id hSw; go_simp; (try with_reducible rfl)
          try simp only [Act.put, List.setIfInBounds_toArray, List.set_cons_zero, List.set_cons_succ]
          refine q_want ?_ (by rfl) (fun w hSw => ?_) ?_
          rotate_left
          · obtain ⟨q1, q2⟩ := id hSw; go_simp; (try with_reducible rfl)
          try simp only [Act.put, List.setIfInBounds_toArray, List.set_cons_zero, List.set_cons_succ]
          refine q_want ?_ (by rfl) (fun w hSw => ?_) ?_
          rotate_left
          · obtain ⟨q1, q2⟩ := id hSw; go_simp; (try with_reducible rfl)
          try simp only [Act.put, List.setIfInBounds_toArray, List.set_cons_zero, List.set_cons_succ]
          refine q_want ?_ (by rfl) (fun w hSw => ?_) ?_
          rotate_left
          · obtain ⟨q1, q2⟩ := id hSw; go_simp; (try with_reducible rfl)
          try simp only [Act.put, List.setIfInBounds_toArray, List.set_cons_zero, List.set_cons_succ]
          refine q_want ?_ (by rfl) (fun w hSw => ?_) ?_
          rotate_left
          · obtain ⟨q1, q2⟩ := id hSw; go_simp; (try with_reducible rfl)
          try simp only [Act.put, List.setIfInBounds_toArray, List.set_cons_zero, List.set_cons_succ]
          refine q_want ?_ (by rfl) (fun w hSw => ?_) ?_
          rotate_left
          · obtain ⟨q1, q2⟩ := id hSw; go_simp; (try with_reducible rfl)
          try simp only [Act.put, List.setIfInBounds_toArray, List.set_cons_zero, List.set_cons_succ]
          refine q_want (.int .i64 sz1) (by rfl) (fun w hSw => ?_) ?_
          · obtain ⟨q1, q2⟩ := id hSw; go_simp; (go_at_call 43; ((with_reducible refine (Kz1.out _).mono ?_); rintro e w4 ⟨rfl, hb4⟩; exact ⟨rfl, blk_later (by simp) hb4 q1, bstep hb4 q2⟩))
          try simp only [Act.put, List.setIfInBounds_toArray, List.set_cons_zero, List.set_cons_succ]
          refine q_want ?_ (by rfl) (fun w hSw => ?_) ?_
          rotate_left
          · obtain ⟨q1, q2⟩ := id hSw; go_simp; (try with_reducible rfl)
          try simp only [Act.put, List.setIfInBounds_toArray, List.set_cons_zero, List.set_cons_succ]
          refine q_want ?_ (by rfl) (fun w hSw => ?_) ?_
          rotate_left
          · obtain ⟨q1, q2⟩ := id hSw; go_simp; (try with_reducible rfl)
          try simp only [Act.put, List.setIfInBounds_toArray, List.set_cons_zero, List.set_cons_succ]
          refine q_want ?_ (by rfl) (fun w hSw => ?_) ?_
          rotate_left
          · obtain ⟨q1, q2⟩ := id hSw; go_simp; (try with_reducible rfl)
          try simp only [Act.put, List.setIfInBounds_toArray, List.set_cons_zero, List.set_cons_succ]
          refine wpQuiet_nil ?_
          intro wq hSq
          obtain ⟨hq, hB⟩ := hSq
          have HB3 := Lib.hid hB
          clear hB
          go_wp2_with fail
          go_roundg 2
          case measure => omega
          case rel => exact ⟨.inr (.inl ⟨rfl, by simp, by simp⟩), hq, World.block_lt_of_cell? _ _ (hq 0), HB3.out⟩
        · go_wp2_with fail
          refine region_quiet (Cl1 w.heap.size (C12 x0 y0 z0 x1 y1 z1 x2 y2 z2 x3 y3 z3) w) (by kernel_rfl) (by kernel_rfl) ?_ ?_
          · (try dsimp only); (exact ⟨hp', HB2.out.drew⟩)
          refine q_want ?_ (by rfl) (fun w hSw => ?_) ?_
          rotate_left
          · obtain ⟨q1, q2⟩ := id hSw; go_simp; (try with_reducible rfl)
          try simp only [Act.put, List.setIfInBounds_toArray, List.set_cons_zero, List.set_cons_succ]
          refine q_want ?_ (by rfl) (fun w hSw => ?_) ?_
          rotate_left
          · obtain ⟨q1, q2⟩ := id hSw; go_simp; (try with_reducible rfl)
          try simp only [Act.put, List.setIfInBounds_toArray, List.set_cons_zero, List.set_cons_succ]
          refine q_want ?_ (by rfl) (fun w hSw => ?_) ?_
          rotate_left
          · obtain ⟨q1, q2⟩ := id hSw; go_simp; (try with_reducible rfl)
          try simp only [Act.put, List.setIfInBounds_toArray, List.set_cons_zero, List.set_cons_succ]
          refine q_want ?_ (by rfl) (fun w hSw => ?_) ?_
          rotate_left
          · obtain ⟨q1, q2⟩ := id hSw; go_simp; (try with_reducible rfl)
          try simp only [Act.put, List.setIfInBounds_toArray, List.set_cons_zero, List.set_cons_succ]
          refine q_want ?_ (by rfl) (fun w hSw => ?_) ?_
          rotate_left
          · obtain ⟨q1, q2⟩ := id hSw; go_simp; (try with_reducible rfl)
          try simp only [Act.put, List.setIfInBounds_toArray, List.set_cons_zero, List.set_cons_succ]
          refine q_want ?_ (by rfl) (fun w hSw => ?_) ?_
          rotate_left
          · obtain ⟨q1, q2⟩ := id hSw; go_simp; (try with_reducible rfl)
          try simp only [Act.put, List.setIfInBounds_toArray, List.set_cons_zero, List.set_cons_succ]
          refine q_want ?_ (by rfl) (fun w hSw => ?_) ?_
          rotate_left
          · obtain ⟨q1, q2⟩ := id hSw; go_simp; (try with_reducible rfl)
          try simp only [Act.put, List.setIfInBounds_toArray, List.set_cons_zero, List.set_cons_succ]
          refine q_want ?_ (by rfl) (fun w hSw => ?_) ?_
          rotate_left
          · obtain ⟨q1, q2⟩ := id hSw; go_simp; (try with_reducible rfl)
          try simp only [Act.put, List.setIfInBounds_toArray, List.set_cons_zero, List.set_cons_succ]
          refine q_want ?_ (by rfl) (fun w hSw => ?_) ?_
          rotate_left
          · obtain ⟨q1, q2⟩ := id hSw; go_simp; (try with_reducible rfl)
          try simp only [Act.put, List.setIfInBounds_toArray, List.set_cons_zero, List.set_cons_succ]
          refine q_want ?_ (by rfl) (fun w hSw => ?_) ?_
          rotate_left
          · obtain ⟨q1, q2⟩ := id hSw; go_simp; (try with_reducible rfl)
          try simp only [Act.put, List.setIfInBounds_toArray, List.set_cons_zero, List.set_cons_succ]
          refine q_want ?_ (by rfl) (fun w hSw => ?_) ?_
          rotate_left
          · obtain ⟨q1, q2⟩ := id hSw; go_simp; (try with_reducible rfl)
          try simp only [Act.put, List.setIfInBounds_toArray, List.set_cons_zero, List.set_cons_succ]
          refine q_want (.int .i64 sx2) (by rfl) (fun w hSw => ?_) ?_
          · obtain ⟨q1, q2⟩ := id hSw; go_simp; (go_at_call 43; ((with_reducible refine (Kx2.out _).mono ?_); rintro e w4 ⟨rfl, hb4⟩; exact ⟨rfl, blk_later (by simp) hb4 q1, bstep hb4 q2⟩))
          try simp only [Act.put, List.setIfInBounds_toArray, List.set_cons_zero, List.set_cons_succ]
          refine q_want ?_ (by rfl) (fun w hSw => ?_) ?_
          rotate_left
          · obtain ⟨q1, q2⟩ := id hSw; go_simp; (try with_reducible rfl)
          try simp only [Act.put, List.setIfInBounds_toArray, List.set_cons_zero, List.set_cons_succ]
          refine q_want ?_ (by rfl) (fun w hSw => ?_) ?_
          rotate_left
          · obtain ⟨q1, q2⟩ := id hSw; go_simp; (try with_reducible rfl)
          try simp only [Act.put, List.setIfInBounds_toArray, List.set_cons_zero, List.set_cons_succ]
          refine q_want ?_ (by rfl) (fun w hSw => ?_) ?_
          rotate_left
          · obtain ⟨q1, q2⟩ := id hSw; go_simp; (try with_reducible rfl)
          try simp only [Act.put, List.setIfInBounds_toArray, List.set_cons_zero, List.set_cons_succ]
          refine q_want ?_ (by rfl) (fun w hSw => ?_) ?_
          rotate_left
          · obtain ⟨q1, q2⟩ := id hSw; go_simp; (try with_reducible rfl)
          try simp only [Act.put, List.setIfInBounds_toArray, List.set_cons_zero, List.set_cons_succ]
          refine q_want ?_ (by rfl) (fun w hSw => ?_) ?_
          rotate_left
          · obtain ⟨q1, q2⟩ := id hSw; go_simp; (try with_reducible rfl)
          try simp only [Act.put, List.setIfInBounds_toArray, List.set_cons_zero, List.set_cons_succ]
          refine q_want ?_ (by rfl) (fun w hSw => ?_) ?_
          rotate_left
          · obtain ⟨q1, q2⟩ := id hSw; go_simp; (try with_reducible rfl)
          try simp only [Act.put, List.setIfInBounds_toArray, List.set_cons_zero, List.set_cons_succ]
          refine q_want ?_ (by rfl) (fun w hSw => ?_) ?_
          rotate_left
          · obtain ⟨q1, q2⟩ := id hSw; go_simp; (try with_reducible rfl)
          try simp only [Act.put, List.setIfInBounds_toArray, List.set_cons_zero, List.set_cons_succ]
          refine q_want ?_ (by rfl) (fun w hSw => ?_) ?_
          rotate_left
          · obtain ⟨q1, q2⟩ := id hSw; go_simp; (try with_reducible rfl)
          try simp only [Act.put, List.setIfInBounds_toArray, List.set_cons_zero, List.set_cons_succ]
          refine q_want ?_ (by rfl) (fun w hSw => ?_) ?_
          rotate_left
          · obtain ⟨q1, q2⟩ := id hSw; go_simp; (try with_reducible rfl)
          try simp only [Act.put, List.setIfInBounds_toArray, List.set_cons_zero, List.set_cons_succ]
          refine q_want ?_ (by rfl) (fun w hSw => ?_) ?_
          rotate_left
          · obtain ⟨q1, q2⟩ := id hSw; go_simp; (try with_reducible rfl)
          try simp only [Act.put, List.setIfInBounds_toArray, List.set_cons_zero, List.set_cons_succ]
          refine q_want (.int .i64 sy2) (by rfl) (fun w hSw => ?_) ?_
          · obtain ⟨q1, q2⟩ := id hSw; go_simp; (go_at_call 43; ((with_reducible refine (Ky2.out _).mono ?_); rintro e w4 ⟨rfl, hb4⟩; exact ⟨rfl, blk_later (by simp) hb4 q1, bstep hb4 q2⟩))
          try simp only [Act.put, List.setIfInBounds_toArray, List.set_cons_zero, List.set_cons_succ]
          refine q_want ?_ (by rfl) (fun w hSw => ?_) ?_
          rotate_left
          · obtain ⟨q1, q2⟩ := id hSw; go_simp; (try with_reducible rfl)
          try simp only [Act.put, List.setIfInBounds_toArray, List.set_cons_zero, List.set_cons_succ]
          refine q_want ?_ (by rfl) (fun w hSw => ?_) ?_
          rotate_left
          · obtain ⟨q1, q2⟩ := id hSw; go_simp; (try with_reducible rfl)
          try simp only [Act.put, List.setIfInBounds_toArray, List.set_cons_zero, List.set_cons_succ]
          refine q_want ?_ (by rfl) (fun w hSw => ?_) ?_
          rotate_left
          · obtain ⟨q1, q2⟩ := id hSw; go_simp; (try with_reducible rfl)
          try simp only [Act.put, List.setIfInBounds_toArray, List.set_cons_zero, List.set_cons_succ]
          refine q_want ?_ (by rfl) (fun w hSw => ?_) ?_
          rotate_left
          · obtain ⟨q1, q2⟩ := id hSw; go_simp; (try with_reducible rfl)
          try simp only [Act.put, List.setIfInBounds_toArray, List.set_cons_zero, List.set_cons_succ]
          refine q_want ?_ (by rfl) (fun w hSw => ?_) ?_
          rotate_left
          · obtain ⟨q1, q2⟩ := id hSw; go_simp; (try with_reducible rfl)
          try simp only [Act.put, List.setIfInBounds_toArray, List.set_cons_zero, List.set_cons_succ]
          refine q_want ?_ (by rfl) (fun w hSw => ?_) ?_
          rotate_left
          · obtain ⟨q1, q2⟩ := id hSw; go_simp; (try with_reducible rfl)
          try simp only [Act.put, List.setIfInBounds_toArray, List.set_cons_zero, List.set_cons_succ]
          refine q_want ?_ (by rfl) (fun w hSw => ?_) ?_
          rotate_left
          · obtain ⟨q1, q2⟩ := id hSw; go_simp; (try with_reducible rfl)
          try simp only [Act.put, List.setIfInBounds_toArray, List.set_cons_zero, List.set_cons_succ]
          refine q_want ?_ (by rfl) (fun w hSw => ?_) ?_
          rotate_left
          · obtain ⟨q1, q2⟩ := id hSw; go_simp; (try with_reducible rfl)
          try simp only [Act.put, List.setIfInBounds_toArray, List.set_cons_zero, List.set_cons_succ]
          refine q_want ?_ (by rfl) (fun w hSw => ?_) ?_
          rotate_left
          · obtain ⟨q1, q2⟩ := id hSw; go_simp; (try with_reducible rfl)
          try simp only [Act.put, List.setIfInBounds_toArray, List.set_cons_zero, List.set_cons_succ]
          refine q_want ?_ (by rfl) (fun w hSw => ?_) ?_
          rotate_left
          · obtain ⟨q1, q2⟩ := id hSw; go_simp; (try with_reducible rfl)
          try simp only [Act.put, List.setIfInBounds_toArray, List.set_cons_zero, List.set_cons_succ]
          refine q_want ?_ (by rfl) (fun w hSw => ?_) ?_
          rotate_left
          · obtain ⟨q1, q2⟩ := id hSw; go_simp; (try with_reducible rfl)
          try simp only [Act.put, List.setIfInBounds_toArray, List.set_cons_zero, List.set_cons_succ]
          refine q_want (.int .i64 sz2) (by rfl) (fun w hSw => ?_) ?_
          · obtain ⟨q1, q2⟩ := id hSw; go_simp; (go_at_call 43; ((with_reducible refine (Kz2.out _).mono ?_); rintro e w4 ⟨rfl, hb4⟩; exact ⟨rfl, blk_later (by simp) hb4 q1, bstep hb4 q2⟩))
          try simp only [Act.put, List.setIfInBounds_toArray, List.set_cons_zero, List.set_cons_succ]
          refine q_want ?_ (by rfl) (fun w hSw => ?_) ?_
          rotate_left
          · obtain ⟨q1, q2⟩ := id hSw; go_simp; (try with_reducible rfl)
          try simp only [Act.put, List.setIfInBounds_toArray, List.set_cons_zero, List.set_cons_succ]
          refine q_want ?_ (by rfl) (fun w hSw => ?_) ?_
          rotate_left
          · obtain ⟨q1, q2⟩ := id hSw; go_simp; (try with_reducible rfl)
          try simp only [Act.put, List.setIfInBounds_toArray, List.set_cons_zero, List.set_cons_succ]
          refine q_want ?_ (by rfl) (fun w hSw => ?_) ?_
          rotate_left
          · obtain ⟨q1, q2⟩ := id hSw; go_simp; (try with_reducible rfl)
          try simp only [Act.put, List.setIfInBounds_toArray, List.set_cons_zero, List.set_cons_succ]
          refine wpQuiet_nil ?_
          intro wq hSq
          obtain ⟨hq, hB⟩ := hSq
          have HB3 := Lib.hid hB
          clear hB
          go_wp2_with fail
          go_roundg 1
          case measure => omega
          case rel => exact ⟨.inr (.inr (.inl ⟨rfl, by simp, by simp⟩)), hq, World.block_lt_of_cell? _ _ (hq 0), HB3.out⟩
        · go_wp2_with fail
          refine region_quiet (Cl1 w.heap.size (C12 x0 y0 z0 x1 y1 z1 x2 y2 z2 x3 y3 z3) w) (by kernel_rfl) (by kernel_rfl) ?_ ?_
          · (try dsimp only); (exact ⟨hp', HB2.out.drew⟩)
          refine q_want ?_ (by rfl) (fun w hSw => ?_) ?_
          rotate_left
          · obtain ⟨q1, q2⟩ := id hSw; go_simp; (try with_reducible rfl)
          try simp only [Act.put, List.setIfInBounds_toArray, List.set_cons_zero, List.set_cons_succ]
          refine q_want ?_ (by rfl) (fun w hSw => ?_) ?_
          rotate_left
          · obtain ⟨q1, q2⟩ := id hSw; go_simp; (try with_reducible rfl)
          try simp only [Act.put, List.setIfInBounds_toArray, List.set_cons_zero, List.set_cons_succ]
          refine q_want ?_ (by rfl) (fun w hSw => ?_) ?_
          rotate_left
          · obtain ⟨q1, q2⟩ := id hSw; go_simp; (try with_reducible rfl)
          try simp only [Act.put, List.setIfInBounds_toArray, List.set_cons_zero, List.set_cons_succ]
          refine q_want ?_ (by rfl) (fun w hSw => ?_) ?_
          rotate_left
          · obtain ⟨q1, q2⟩ := id hSw; go_simp; (try with_reducible rfl)
          try simp only [Act.put, List.setIfInBounds_toArray, List.set_cons_zero, List.set_cons_succ]
          refine q_want ?_ (by rfl) (fun w hSw => ?_) ?_
          rotate_left
          · obtain ⟨q1, q2⟩ := id hSw; go_simp; (try with_reducible rfl)
          try simp only [Act.put, List.setIfInBounds_toArray, List.set_cons_zero, List.set_cons_succ]
          refine q_want ?_ (by rfl) (fun w hSw => ?_) ?_
          rotate_left
          · obtain ⟨q1, q2⟩ := id hSw; go_simp; (try with_reducible rfl)
          try simp only [Act.put, List.setIfInBounds_toArray, List.set_cons_zero, List.set_cons_succ]
          refine q_want ?_ (by rfl) (fun w hSw => ?_) ?_
          rotate_left
          · obtain ⟨q1, q2⟩ := id hSw; go_simp; (try with_reducible rfl)
          try simp only [Act.put, List.setIfInBounds_toArray, List.set_cons_zero, List.set_cons_succ]
          refine q_want ?_ (by rfl) (fun w hSw => ?_) ?_
          rotate_left
          · obtain ⟨q1, q2⟩ := id hSw; go_simp; (try with_reducible rfl)
          try simp only [Act.put, List.setIfInBounds_toArray, List.set_cons_zero, List.set_cons_succ]
          refine q_want ?_ (by rfl) (fun w hSw => ?_) ?_
          rotate_left
          · obtain ⟨q1, q2⟩ := id hSw; go_simp; (try with_reducible rfl)
          try simp only [Act.put, List.setIfInBounds_toArray, List.set_cons_zero, List.set_cons_succ]
          refine q_want ?_ (by rfl) (fun w hSw => ?_) ?_
          rotate_left
          · obtain ⟨q1, q2⟩ := id hSw; go_simp; (try with_reducible rfl)
          try simp only [Act.put, List.setIfInBounds_toArray, List.set_cons_zero, List.set_cons_succ]
          refine q_want ?_ (by rfl) (fun w hSw => ?_) ?_
          rotate_left
          · obtain ⟨q1, q2⟩ := id hSw; go_simp; (try with_reducible rfl)
          try simp only [Act.put, List.setIfInBounds_toArray, List.set_cons_zero, List.set_cons_succ]
          refine q_want (.int .i64 sx3) (by rfl) (fun w hSw => ?_) ?_
          · obtain ⟨q1, q2⟩ := id hSw; go_simp; (go_at_call 43; ((with_reducible refine (Kx3.out _).mono ?_); rintro e w4 ⟨rfl, hb4⟩; exact ⟨rfl, blk_later (by simp) hb4 q1, bstep hb4 q2⟩))
          try simp only [Act.put, List.setIfInBounds_toArray, List.set_cons_zero, List.set_cons_succ]
          refine q_want ?_ (by rfl) (fun w hSw => ?_) ?_
          rotate_left
          · obtain ⟨q1, q2⟩ := id hSw; go_simp; (try with_reducible rfl)
          try simp only [Act.put, List.setIfInBounds_toArray, List.set_cons_zero, List.set_cons_succ]
          refine q_want ?_ (by rfl) (fun w hSw => ?_) ?_
          rotate_left
          · obtain ⟨q1, q2⟩ := id hSw; go_simp; (try with_reducible rfl)
          try simp only [Act.put, List.setIfInBounds_toArray, List.set_cons_zero, List.set_cons_succ]
          refine q_want ?_ (by rfl) (fun w hSw => ?_) ?_
          rotate_left
          · obtain ⟨q1, q2⟩ := id hSw; go_simp; (try with_reducible rfl)
          try simp only [Act.put, List.setIfInBounds_toArray, List.set_cons_zero, List.set_cons_succ]
          refine q_want ?_ (by rfl) (fun w hSw => ?_) ?_
          rotate_left
          · obtain ⟨q1, q2⟩ := id hSw; go_simp; (try with_reducible rfl)
          try simp only [Act.put, List.setIfInBounds_toArray, List.set_cons_zero, List.set_cons_succ]
          refine q_want ?_ (by rfl) (fun w hSw => ?_) ?_
          rotate_left
          · obtain ⟨q1, q2⟩ := id hSw; go_simp; (try with_reducible rfl)
          try simp only [Act.put, List.setIfInBounds_toArray, List.set_cons_zero, List.set_cons_succ]
          refine q_want ?_ (by rfl) (fun w hSw => ?_) ?_
          rotate_left
          · obtain ⟨q1, q2⟩ := id hSw; go_simp; (try with_reducible rfl)
          try simp only [Act.put, List.setIfInBounds_toArray, List.set_cons_zero, List.set_cons_succ]
          refine q_want ?_ (by rfl) (fun w hSw => ?_) ?_
          rotate_left
          · obtain ⟨q1, q2⟩ := id hSw; go_simp; (try with_reducible rfl)
          try simp only [Act.put, List.setIfInBounds_toArray, List.set_cons_zero, List.set_cons_succ]
          refine q_want ?_ (by rfl) (fun w hSw => ?_) ?_
          rotate_left
          · obtain ⟨q1, q2⟩ := id hSw; go_simp; (try with_reducible rfl)
          try simp only [Act.put, List.setIfInBounds_toArray, List.set_cons_zero, List.set_cons_succ]
          refine q_want ?_ (by rfl) (fun w hSw => ?_) ?_
          rotate_left
          · obtain ⟨q1, q2⟩ := id hSw; go_simp; (try with_reducible rfl)
          try simp only [Act.put, List.setIfInBounds_toArray, List.set_cons_zero, List.set_cons_succ]
          refine q_want ?_ (by rfl) (fun w hSw => ?_) ?_
          rotate_left
          · obtain ⟨q1, q2⟩ := id hSw; go_simp; (try with_reducible rfl)
          try simp only [Act.put, List.setIfInBounds_toArray, List.set_cons_zero, List.set_cons_succ]
          refine q_want (.int .i64 sy3) (by rfl) (fun w hSw => ?_) ?_
          · obtain ⟨q1, q2⟩ := id hSw; go_simp; (go_at_call 43; ((with_reducible refine (Ky3.out _).mono ?_); rintro e w4 ⟨rfl, hb4⟩; exact ⟨rfl, blk_later (by simp) hb4 q1, bstep hb4 q2⟩))
          try simp only [Act.put, List.setIfInBounds_toArray, List.set_cons_zero, List.set_cons_succ]
          refine q_want ?_ (by rfl) (fun w hSw => ?_) ?_
          rotate_left
          · obtain ⟨q1, q2⟩ := id hSw; go_simp; (try with_reducible rfl)
          try simp only [Act.put, List.setIfInBounds_toArray, List.set_cons_zero, List.set_cons_succ]
          refine q_want ?_ (by rfl) (fun w hSw => ?_) ?_
          rotate_left
          · obtain ⟨q1, q2⟩ := id hSw; go_simp; (try with_reducible rfl)
          try simp only [Act.put, List.setIfInBounds_toArray, List.set_cons_zero, List.set_cons_succ]
          refine q_want ?_ (by rfl) (fun w hSw => ?_) ?_
          rotate_left
          · obtain ⟨q1, q2⟩ := id hSw; go_simp; (try with_reducible rfl)
          try simp only [Act.put, List.setIfInBounds_toArray, List.set_cons_zero, List.set_cons_succ]
          refine q_want ?_ (by rfl) (fun w hSw => ?_) ?_
          rotate_left
          · obtain ⟨q1, q2⟩ := id hSw; go_simp; (try with_reducible rfl)
          try simp only [Act.put, List.setIfInBounds_toArray, List.set_cons_zero, List.set_cons_succ]
          refine q_want ?_ (by rfl) (fun w hSw => ?_) ?_
          rotate_left
          · obtain ⟨q1, q2⟩ := id hSw; go_simp; (try with_reducible rfl)
          try simp only [Act.put, List.setIfInBounds_toArray, List.set_cons_zero, List.set_cons_succ]
          refine q_want ?_ (by rfl) (fun w hSw => ?_) ?_
          rotate_left
          · obtain ⟨q1, q2⟩ := id hSw; go_simp; (try with_reducible rfl)
          try simp only [Act.put, List.setIfInBounds_toArray, List.set_cons_zero, List.set_cons_succ]
          refine q_want ?_ (by rfl) (fun w hSw => ?_) ?_
          rotate_left
          · obtain ⟨q1, q2⟩ := id hSw; go_simp; (try with_reducible rfl)
          try simp only [Act.put, List.setIfInBounds_toArray, List.set_cons_zero, List.set_cons_succ]
          refine q_want ?_ (by rfl) (fun w hSw => ?_) ?_
          rotate_left
          · obtain ⟨q1, q2⟩ := id hSw; go_simp; (try with_reducible rfl)
          try simp only [Act.put, List.setIfInBounds_toArray, List.set_cons_zero, List.set_cons_succ]
          refine q_want ?_ (by rfl) (fun w hSw => ?_) ?_
          rotate_left
          · obtain ⟨q1, q2⟩ := id hSw; go_simp; (try with_reducible rfl)
          try simp only [Act.put, List.setIfInBounds_toArray, List.set_cons_zero, List.set_cons_succ]
          refine q_want ?_ (by rfl) (fun w hSw => ?_) ?_
          rotate_left
          · obtain ⟨q1, q2⟩ := id hSw; go_simp; (try with_reducible rfl)
          try simp only [Act.put, List.setIfInBounds_toArray, List.set_cons_zero, List.set_cons_succ]
          refine q_want ?_ (by rfl) (fun w hSw => ?_) ?_
          rotate_left
          · obtain ⟨q1, q2⟩ := id hSw; go_simp; (try with_reducible rfl)
          try simp only [Act.put, List.setIfInBounds_toArray, List.set_cons_zero, List.set_cons_succ]
          refine q_want (.int .i64 sz3) (by rfl) (fun w hSw => ?_) ?_
          · obtain ⟨q1, q2⟩ := id hSw; go_simp; (go_at_call 43; ((with_reducible refine (Kz3.out _).mono ?_); rintro e w4 ⟨rfl, hb4⟩; exact ⟨rfl, blk_later (by simp) hb4 q1, bstep hb4 q2⟩))
          try simp only [Act.put, List.setIfInBounds_toArray, List.set_cons_zero, List.set_cons_succ]
          refine q_want ?_ (by rfl) (fun w hSw => ?_) ?_
          rotate_left
          · obtain ⟨q1, q2⟩ := id hSw; go_simp; (try with_reducible rfl)
          try simp only [Act.put, List.setIfInBounds_toArray, List.set_cons_zero, List.set_cons_succ]
          refine q_want ?_ (by rfl) (fun w hSw => ?_) ?_
          rotate_left
          · obtain ⟨q1, q2⟩ := id hSw; go_simp; (try with_reducible rfl)
          try simp only [Act.put, List.setIfInBounds_toArray, List.set_cons_zero, List.set_cons_succ]
          refine q_want ?_ (by rfl) (fun w hSw => ?_) ?_
          rotate_left
          · obtain ⟨q1, q2⟩ := id hSw; go_simp; (try with_reducible rfl)
          try simp only [Act.put, List.setIfInBounds_toArray, List.set_cons_zero, List.set_cons_succ]
          refine wpQuiet_nil ?_
          intro wq hSq
          obtain ⟨hq, hB⟩ := hSq
          have HB3 := Lib.hid hB
          clear hB
          go_wp2_with fail
          go_roundg 0
          case measure => omega
          case rel => exact ⟨.inr (.inr (.inr (⟨rfl, by simp, by simp⟩))), hq, World.block_lt_of_cell? _ _ (hq 0), HB3.out⟩
        · go_wp2_with fail
          have HB' := HB2.out
          go_returns
          exact ⟨by simp, by (repeat' (first | (with_reducible exact Below.refl _ _) | (with_reducible refine bstep (by with_reducible assumption) ?_) | (with_reducible refine Below.alloc ?_ ?_ _) | (with_reducible refine Below.drew ?_) | (with_reducible refine below_drewN ?_ _) | (with_reducible refine Below.setCell ?_ ?_ _) | go_size))⟩
set_option maxHeartbeats 4000000 in
theorem rlen_0 (x0 y0 z0 x1 y1 z1 x2 y2 z2 x3 y3 z3 : Int) (w : World) (h0 : inB x0 y0 z0 65536 = false) :
    Calls Try.prog 36 #[.agg (C12 x0 y0 z0 x1 y1 z1 x2 y2 z2 x3 y3 z3)] w fun e w' => e = .returned (.tuple #[.int .i64 0, .bool false]) ∧ Below w.heap.size w w' := by
  have W0 : Hid (∀ w, Calls Try.prog 42 #[V3 x0 y0 z0, .int .i64 65536] w fun e w' => e = .returned (.bool false) ∧ Below w.heap.size w w') := by
    intro w; have := within0_any x0 y0 z0 65536 w; rw [h0] at this; exact this
  clear h0
  have n0 : IntKind.i64.wrap 0 = 0 := by decide
  have n1 : IntKind.i64.wrap 1 = 1 := by decide
  have n2 : IntKind.i64.wrap 2 = 2 := by decide
  have n3 : IntKind.i64.wrap 3 = 3 := by decide
  go_enter Try.func36, Try.ntmps36
  go_wp2_with fail
  go_loopg [5] 4 (fun k i wr => LnRel 0 w.heap.size (C12 x0 y0 z0 x1 y1 z1 x2 y2 z2 x3 y3 z3) w k i wr)
  case atStart => exact ⟨.inl ⟨rfl, rfl, by omega⟩, fun o => by rw [World.cell?_alloc_new], by simp, (Below.refl _ _).alloc (Nat.le_refl _) _⟩
  case round =>
    obtain ⟨hk, hp, hlt, hB⟩ := hrel
    have HB := Lib.hid hB
    clear hB
    rcases hk with ⟨rfl, rfl, hg⟩ | ⟨rfl, rfl, hg⟩ | ⟨rfl, rfl, hg⟩ | ⟨rfl, rfl, hg⟩ | ⟨rfl, rfl, hg⟩
    · go_wp2_with (go_at_call 42; ((with_reducible refine (W0.out _).mono ?_); rintro e w3 ⟨rfl, hb3⟩))
      have HB' := HB.out
      go_returns
      exact ⟨by simp, by (repeat' (first | (with_reducible exact Below.refl _ _) | (with_reducible refine bstep (by with_reducible assumption) ?_) | (with_reducible refine Below.alloc ?_ ?_ _) | (with_reducible refine Below.drew ?_) | (with_reducible refine below_drewN ?_ _) | (with_reducible refine Below.setCell ?_ ?_ _) | go_size))⟩
    · exact absurd hg (by omega)
    · exact absurd hg (by omega)
    · exact absurd hg (by omega)
    · exact absurd hg (by omega)
set_option maxHeartbeats 4000000 in
theorem rlen_1 (x0 y0 z0 x1 y1 z1 x2 y2 z2 x3 y3 z3 : Int) (w : World) (h0 : inB x0 y0 z0 65536 = true) (h1 : inB x1 y1 z1 65536 = false) :
    Calls Try.prog 36 #[.agg (C12 x0 y0 z0 x1 y1 z1 x2 y2 z2 x3 y3 z3)] w fun e w' => e = .returned (.tuple #[.int .i64 0, .bool false]) ∧ Below w.heap.size w w' := by
  have W0 : Hid (∀ w, Calls Try.prog 42 #[V3 x0 y0 z0, .int .i64 65536] w fun e w' => e = .returned (.bool true) ∧ Below w.heap.size w w') := by
    intro w; have := within0_any x0 y0 z0 65536 w; rw [h0] at this; exact this
  have W1 : Hid (∀ w, Calls Try.prog 42 #[V3 x1 y1 z1, .int .i64 65536] w fun e w' => e = .returned (.bool false) ∧ Below w.heap.size w w') := by
    intro w; have := within0_any x1 y1 z1 65536 w; rw [h1] at this; exact this
  clear h0 h1
  have n0 : IntKind.i64.wrap 0 = 0 := by decide
  have n1 : IntKind.i64.wrap 1 = 1 := by decide
  have n2 : IntKind.i64.wrap 2 = 2 := by decide
  have n3 : IntKind.i64.wrap 3 = 3 := by decide
  go_enter Try.func36, Try.ntmps36
  go_wp2_with fail
  go_loopg [5] 4 (fun k i wr => LnRel 1 w.heap.size (C12 x0 y0 z0 x1 y1 z1 x2 y2 z2 x3 y3 z3) w k i wr)
  case atStart => exact ⟨.inl ⟨rfl, rfl, by omega⟩, fun o => by rw [World.cell?_alloc_new], by simp, (Below.refl _ _).alloc (Nat.le_refl _) _⟩
  case round =>
    obtain ⟨hk, hp, hlt, hB⟩ := hrel
    have HB := Lib.hid hB
    clear hB
    rcases hk with ⟨rfl, rfl, hg⟩ | ⟨rfl, rfl, hg⟩ | ⟨rfl, rfl, hg⟩ | ⟨rfl, rfl, hg⟩ | ⟨rfl, rfl, hg⟩
    · go_wp2_with (go_at_call 42; ((with_reducible refine (W0.out _).mono ?_); rintro e w3 ⟨rfl, hb3⟩; have hp3 := blk_later (by simp) hb3 hp))
      go_roundg 3
      case measure => omega
      case rel =>
        have HB' := HB.out
        exact ⟨.inr (.inl ⟨rfl, by simp, by omega⟩), hp3, World.block_lt_of_cell? _ _ (hp3 0), by (repeat' (first | (with_reducible exact Below.refl _ _) | (with_reducible refine bstep (by with_reducible assumption) ?_) | (with_reducible refine Below.alloc ?_ ?_ _) | (with_reducible refine Below.drew ?_) | (with_reducible refine below_drewN ?_ _) | (with_reducible refine Below.setCell ?_ ?_ _) | go_size))⟩
    · go_wp2_with (go_at_call 42; ((with_reducible refine (W1.out _).mono ?_); rintro e w3 ⟨rfl, hb3⟩))
      have HB' := HB.out
      go_returns
      exact ⟨by simp, by (repeat' (first | (with_reducible exact Below.refl _ _) | (with_reducible refine bstep (by with_reducible assumption) ?_) | (with_reducible refine Below.alloc ?_ ?_ _) | (with_reducible refine Below.drew ?_) | (with_reducible refine below_drewN ?_ _) | (with_reducible refine Below.setCell ?_ ?_ _) | go_size))⟩
    · exact absurd hg (by omega)
    · exact absurd hg (by omega)
    · exact absurd hg (by omega)
set_option maxHeartbeats 4000000 in
theorem rlen_2 (x0 y0 z0 x1 y1 z1 x2 y2 z2 x3 y3 z3 : Int) (w : World) (h0 : inB x0 y0 z0 65536 = true) (h1 : inB x1 y1 z1 65536 = true) (h2 : inB x2 y2 z2 65536 = false) :
    Calls Try.prog 36 #[.agg (C12 x0 y0 z0 x1 y1 z1 x2 y2 z2 x3 y3 z3)] w fun e w' => e = .returned (.tuple #[.int .i64 0, .bool false]) ∧ Below w.heap.size w w' := by
  have W0 : Hid (∀ w, Calls Try.prog 42 #[V3 x0 y0 z0, .int .i64 65536] w fun e w' => e = .returned (.bool true) ∧ Below w.heap.size w w') := by
    intro w; have := within0_any x0 y0 z0 65536 w; rw [h0] at this; exact this
  have W1 : Hid (∀ w, Calls Try.prog 42 #[V3 x1 y1 z1, .int .i64 65536] w fun e w' => e = .returned (.bool true) ∧ Below w.heap.size w w') := by
    intro w; have := within0_any x1 y1 z1 65536 w; rw [h1] at this; exact this
  have W2 : Hid (∀ w, Calls Try.prog 42 #[V3 x2 y2 z2, .int .i64 65536] w fun e w' => e = .returned (.bool false) ∧ Below w.heap.size w w') := by
    intro w; have := within0_any x2 y2 z2 65536 w; rw [h2] at this; exact this
  clear h0 h1 h2
  have n0 : IntKind.i64.wrap 0 = 0 := by decide
  have n1 : IntKind.i64.wrap 1 = 1 := by decide
  have n2 : IntKind.i64.wrap 2 = 2 := by decide
  have n3 : IntKind.i64.wrap 3 = 3 := by decide
  go_enter Try.func36, Try.ntmps36
  go_wp2_with fail
  go_loopg [5] 4 (fun k i wr => LnRel 2 w.heap.size (C12 x0 y0 z0 x1 y1 z1 x2 y2 z2 x3 y3 z3) w k i wr)
  case atStart => exact ⟨.inl ⟨rfl, rfl, by omega⟩, fun o => by rw [World.cell?_alloc_new], by simp, (Below.refl _ _).alloc (Nat.le_refl _) _⟩
  case round =>
    obtain ⟨hk, hp, hlt, hB⟩ := hrel
    have HB := Lib.hid hB
    clear hB
    rcases hk with ⟨rfl, rfl, hg⟩ | ⟨rfl, rfl, hg⟩ | ⟨rfl, rfl, hg⟩ | ⟨rfl, rfl, hg⟩ | ⟨rfl, rfl, hg⟩
    · go_wp2_with (go_at_call 42; ((with_reducible refine (W0.out _).mono ?_); rintro e w3 ⟨rfl, hb3⟩; have hp3 := blk_later (by simp) hb3 hp))
      go_roundg 3
      case measure => omega
      case rel =>
        have HB' := HB.out
        exact ⟨.inr (.inl ⟨rfl, by simp, by omega⟩), hp3, World.block_lt_of_cell? _ _ (hp3 0), by (repeat' (first | (with_reducible exact Below.refl _ _) | (with_reducible refine bstep (by with_reducible assumption) ?_) | (with_reducible refine Below.alloc ?_ ?_ _) | (with_reducible refine Below.drew ?_) | (with_reducible refine below_drewN ?_ _) | (with_reducible refine Below.setCell ?_ ?_ _) | go_size))⟩
    · go_wp2_with (go_at_call 42; ((with_reducible refine (W1.out _).mono ?_); rintro e w3 ⟨rfl, hb3⟩; have hp3 := blk_later (by simp) hb3 hp))
      go_roundg 2
      case measure => omega
      case rel =>
        have HB' := HB.out
        exact ⟨.inr (.inr (.inl ⟨rfl, by simp, by omega⟩)), hp3, World.block_lt_of_cell? _ _ (hp3 0), by (repeat' (first | (with_reducible exact Below.refl _ _) | (with_reducible refine bstep (by with_reducible assumption) ?_) | (with_reducible refine Below.alloc ?_ ?_ _) | (with_reducible refine Below.drew ?_) | (with_reducible refine below_drewN ?_ _) | (with_reducible refine Below.setCell ?_ ?_ _) | go_size))⟩
    · go_wp2_with (go_at_call 42; ((with_reducible refine (W2.out _).mono ?_); rintro e w3 ⟨rfl, hb3⟩))
      have HB' := HB.out
      go_returns
      exact ⟨by simp, by (repeat' (first | (with_reducible exact Below.refl _ _) | (with_reducible refine bstep (by with_reducible assumption) ?_) | (with_reducible refine Below.alloc ?_ ?_ _) | (with_reducible refine Below.drew ?_) | (with_reducible refine below_drewN ?_ _) | (with_reducible refine Below.setCell ?_ ?_ _) | go_size))⟩
    · exact absurd hg (by omega)
    · exact absurd hg (by omega)
set_option maxHeartbeats 4000000 in
theorem rlen_3 (x0 y0 z0 x1 y1 z1 x2 y2 z2 x3 y3 z3 : Int) (w : World) (h0 : inB x0 y0 z0 65536 = true) (h1 : inB x1 y1 z1 65536 = true) (h2 : inB x2 y2 z2 65536 = true) (h3 : inB x3 y3 z3 65536 = false) :
    Calls Try.prog 36 #[.agg (C12 x0 y0 z0 x1 y1 z1 x2 y2 z2 x3 y3 z3)] w fun e w' => e = .returned (.tuple #[.int .i64 0, .bool false]) ∧ Below w.heap.size w w' := by
  have W0 : Hid (∀ w, Calls Try.prog 42 #[V3 x0 y0 z0, .int .i64 65536] w fun e w' => e = .returned (.bool true) ∧ Below w.heap.size w w') := by
    intro w; have := within0_any x0 y0 z0 65536 w; rw [h0] at this; exact this
  have W1 : Hid (∀ w, Calls Try.prog 42 #[V3 x1 y1 z1, .int .i64 65536] w fun e w' => e = .returned (.bool true) ∧ Below w.heap.size w w') := by
    intro w; have := within0_any x1 y1 z1 65536 w; rw [h1] at this; exact this
  have W2 : Hid (∀ w, Calls Try.prog 42 #[V3 x2 y2 z2, .int .i64 65536] w fun e w' => e = .returned (.bool true) ∧ Below w.heap.size w w') := by
    intro w; have := within0_any x2 y2 z2 65536 w; rw [h2] at this; exact this
  have W3 : Hid (∀ w, Calls Try.prog 42 #[V3 x3 y3 z3, .int .i64 65536] w fun e w' => e = .returned (.bool false) ∧ Below w.heap.size w w') := by
    intro w; have := within0_any x3 y3 z3 65536 w; rw [h3] at this; exact this
  clear h0 h1 h2 h3
  have n0 : IntKind.i64.wrap 0 = 0 := by decide
  have n1 : IntKind.i64.wrap 1 = 1 := by decide
  have n2 : IntKind.i64.wrap 2 = 2 := by decide
  have n3 : IntKind.i64.wrap 3 = 3 := by decide
  go_enter Try.func36, Try.ntmps36
  go_wp2_with fail
  go_loopg [5] 4 (fun k i wr => LnRel 3 w.heap.size (C12 x0 y0 z0 x1 y1 z1 x2 y2 z2 x3 y3 z3) w k i wr)
  case atStart => exact ⟨.inl ⟨rfl, rfl, by omega⟩, fun o => by rw [World.cell?_alloc_new], by simp, (Below.refl _ _).alloc (Nat.le_refl _) _⟩
  case round =>
    obtain ⟨hk, hp, hlt, hB⟩ := hrel
    have HB := Lib.hid hB
    clear hB
    rcases hk with ⟨rfl, rfl, hg⟩ | ⟨rfl, rfl, hg⟩ | ⟨rfl, rfl, hg⟩ | ⟨rfl, rfl, hg⟩ | ⟨rfl, rfl, hg⟩
    · go_wp2_with (go_at_call 42; ((with_reducible refine (W0.out _).mono ?_); rintro e w3 ⟨rfl, hb3⟩; have hp3 := blk_later (by simp) hb3 hp))
      go_roundg 3
      case measure => omega
      case rel =>
        have HB' := HB.out
        exact ⟨.inr (.inl ⟨rfl, by simp, by omega⟩), hp3, World.block_lt_of_cell? _ _ (hp3 0), by (repeat' (first | (with_reducible exact Below.refl _ _) | (with_reducible refine bstep (by with_reducible assumption) ?_) | (with_reducible refine Below.alloc ?_ ?_ _) | (with_reducible refine Below.drew ?_) | (with_reducible refine below_drewN ?_ _) | (with_reducible refine Below.setCell ?_ ?_ _) | go_size))⟩
    · go_wp2_with (go_at_call 42; ((with_reducible refine (W1.out _).mono ?_); rintro e w3 ⟨rfl, hb3⟩; have hp3 := blk_later (by simp) hb3 hp))
      go_roundg 2
      case measure => omega
      case rel =>
        have HB' := HB.out
        exact ⟨.inr (.inr (.inl ⟨rfl, by simp, by omega⟩)), hp3, World.block_lt_of_cell? _ _ (hp3 0), by (repeat' (first | (with_reducible exact Below.refl _ _) | (with_reducible refine bstep (by with_reducible assumption) ?_) | (with_reducible refine Below.alloc ?_ ?_ _) | (with_reducible refine Below.drew ?_) | (with_reducible refine below_drewN ?_ _) | (with_reducible refine Below.setCell ?_ ?_ _) | go_size))⟩
    · go_wp2_with (go_at_call 42; ((with_reducible refine (W2.out _).mono ?_); rintro e w3 ⟨rfl, hb3⟩; have hp3 := blk_later (by simp) hb3 hp))
      go_roundg 1
      case measure => omega
      case rel =>
        have HB' := HB.out
        exact ⟨.inr (.inr (.inr (.inl ⟨rfl, by simp, by omega⟩))), hp3, World.block_lt_of_cell? _ _ (hp3 0), by (repeat' (first | (with_reducible exact Below.refl _ _) | (with_reducible refine bstep (by with_reducible assumption) ?_) | (with_reducible refine Below.alloc ?_ ?_ _) | (with_reducible refine Below.drew ?_) | (with_reducible refine below_drewN ?_ _) | (with_reducible refine Below.setCell ?_ ?_ _) | go_size))⟩
    · go_wp2_with (go_at_call 42; ((with_reducible refine (W3.out _).mono ?_); rintro e w3 ⟨rfl, hb3⟩))
      have HB' := HB.out
      go_returns
      exact ⟨by simp, by (repeat' (first | (with_reducible exact Below.refl _ _) | (with_reducible refine bstep (by with_reducible assumption) ?_) | (with_reducible refine Below.alloc ?_ ?_ _) | (with_reducible refine Below.drew ?_) | (with_reducible refine below_drewN ?_ _) | (with_reducible refine Below.setCell ?_ ?_ _) | go_size))⟩
    · exact absurd hg (by omega)
theorem rlen_any (x0 y0 z0 x1 y1 z1 x2 y2 z2 x3 y3 z3 : Int) (w : World) :
    Calls Try.prog 36 #[.agg (C12 x0 y0 z0 x1 y1 z1 x2 y2 z2 x3 y3 z3)] w fun e w' => e = .returned (.tuple #[.int .i64 (if allIn x0 y0 z0 x1 y1 z1 x2 y2 z2 x3 y3 z3 = true then lenF x0 y0 z0 x1 y1 z1 x2 y2 z2 x3 y3 z3 else 0), .bool (allIn x0 y0 z0 x1 y1 z1 x2 y2 z2 x3 y3 z3)]) ∧ Below w.heap.size w w' := by
  unfold allIn
  cases h0 : inB x0 y0 z0 65536
  · simpa using rlen_0 x0 y0 z0 x1 y1 z1 x2 y2 z2 x3 y3 z3 w h0
  cases h1 : inB x1 y1 z1 65536
  · simpa using rlen_1 x0 y0 z0 x1 y1 z1 x2 y2 z2 x3 y3 z3 w h0 h1
  cases h2 : inB x2 y2 z2 65536
  · simpa using rlen_2 x0 y0 z0 x1 y1 z1 x2 y2 z2 x3 y3 z3 w h0 h1 h2
  cases h3 : inB x3 y3 z3 65536
  · simpa using rlen_3 x0 y0 z0 x1 y1 z1 x2 y2 z2 x3 y3 z3 w h0 h1 h2 h3
  · simpa using rlen_4 x0 y0 z0 x1 y1 z1 x2 y2 z2 x3 y3 z3 w h0 h1 h2 h3
theorem redge_any (x0 y0 z0 x1 y1 z1 x2 y2 z2 x3 y3 z3 unit : Int) (w : World) :
    Calls Try.prog 37 #[.agg (C12 x0 y0 z0 x1 y1 z1 x2 y2 z2 x3 y3 z3), .int .i64 unit] w fun e w' => e = .returned (.int .i64 (edgeF (allIn x0 y0 z0 x1 y1 z1 x2 y2 z2 x3 y3 z3) (lenF x0 y0 z0 x1 y1 z1 x2 y2 z2 x3 y3 z3) unit)) ∧ Below w.heap.size w w' := by
  have K := Lib.hid (rlen_any x0 y0 z0 x1 y1 z1 x2 y2 z2 x3 y3 z3)
  have hle := lenF_le x0 y0 z0 x1 y1 z1 x2 y2 z2 x3 y3 z3
  unfold edgeF
  obtain ⟨b, hb⟩ : ∃ b, allIn x0 y0 z0 x1 y1 z1 x2 y2 z2 x3 y3 z3 = b := ⟨_, rfl⟩
  obtain ⟨n, hn⟩ : ∃ n, lenF x0 y0 z0 x1 y1 z1 x2 y2 z2 x3 y3 z3 = n := ⟨_, rfl⟩
  rw [hb, hn] at K hle ⊢
  clear hb hn
  cases b with
  | false =>
    clear hle
    go_enter Try.func37, Try.ntmps37
    go_wp2_with (go_at_call 36; ((with_reducible refine (K.out _).mono ?_); rintro e w3 ⟨rfl, hb3⟩))
    go_returns
    exact ⟨by simp, by (repeat' (first | (with_reducible exact Below.refl _ _) | (with_reducible refine bstep (by with_reducible assumption) ?_) | (with_reducible refine Below.alloc ?_ ?_ _) | (with_reducible refine Below.drew ?_) | (with_reducible refine below_drewN ?_ _) | (with_reducible refine Below.setCell ?_ ?_ _) | go_size))⟩
  | true =>
    obtain ⟨l, u⟩ := hle rfl
    clear hle
    by_cases hu : unit < 1
    · rw [if_pos rfl, if_pos hu]
      have hu' : decide (unit < 1) = true := decide_eq_true hu
      clear hu
      go_enter Try.func37, Try.ntmps37
      go_wp2_with (go_at_call 36; ((with_reducible refine (K.out _).mono ?_); rintro e w3 ⟨rfl, hb3⟩))
      go_returns
      exact ⟨by simp, by (repeat' (first | (with_reducible exact Below.refl _ _) | (with_reducible refine bstep (by with_reducible assumption) ?_) | (with_reducible refine Below.alloc ?_ ?_ _) | (with_reducible refine Below.drew ?_) | (with_reducible refine below_drewN ?_ _) | (with_reducible refine Below.setCell ?_ ?_ _) | go_size))⟩
    · rw [if_pos rfl, if_neg hu]
      have hu' : decide (unit < 1) = false := decide_eq_false hu
      have hu2 : (unit == 0) = false := beq_eq_false_iff_ne.mpr (by omega)
      have hu3 : 1 ≤ unit := by omega
      have q1 : 0 ≤ n / unit := Int.ediv_nonneg l (by omega)
      have q2 : n / unit ≤ 1179648 := Int.le_trans (Int.ediv_le_self unit l) u
      clear hu
      go_enter Try.func37, Try.ntmps37
      go_wp2_with (go_at_call 36; ((with_reducible refine (K.out _).mono ?_); rintro e w3 ⟨rfl, hb3⟩))
      go_returns
      exact ⟨by simp, by (repeat' (first | (with_reducible exact Below.refl _ _) | (with_reducible refine bstep (by with_reducible assumption) ?_) | (with_reducible refine Below.alloc ?_ ?_ _) | (with_reducible refine Below.drew ?_) | (with_reducible refine below_drewN ?_ _) | (with_reducible refine Below.setCell ?_ ?_ _) | go_size))⟩
end Go.Proofs.Ytodgnpggcdjgaaa
