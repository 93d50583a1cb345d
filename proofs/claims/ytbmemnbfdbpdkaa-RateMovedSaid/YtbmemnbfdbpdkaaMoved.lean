/- The law on curves that are moved, walked: for all curves and moves of 64 bits it answers true. -/
import Derived.Test.YtbmemnbfdbpdkaaUnits
namespace Go.Proofs.Ytbmemnbfdbpdkaa
open Go.RowKit
set_option maxRecDepth 100000
set_option linter.unusedSimpArgs false
set_option linter.unusedVariables false
theorem lenF_moved (x0 y0 z0 x1 y1 z1 x2 y2 z2 x3 y3 z3 a b c : Int) : lenF (x0 + a) (y0 + b) (z0 + c) (x1 + a) (y1 + b) (z1 + c) (x2 + a) (y2 + b) (z2 + c) (x3 + a) (y3 + b) (z3 + c) = lenF x0 y0 z0 x1 y1 z1 x2 y2 z2 x3 y3 z3 := by
  have e : ∀ x y a : Int, (x + a) - (y + a) = x - y := fun _ _ _ => by omega
  unfold lenF
  simp only [e]
theorem wayF_neg (x y z : Int) : wayF (-x) (-y) (-z) = wayF x y z := by
  have e : ∀ x : Int, mx (-x) (- -x) = mx x (-x) := fun x => by unfold mx; split <;> split <;> omega
  unfold wayF
  simp only [e]
theorem lenF_neg (x0 y0 z0 x1 y1 z1 x2 y2 z2 x3 y3 z3 : Int) : lenF (-x0) (-y0) (-z0) (-x1) (-y1) (-z1) (-x2) (-y2) (-z2) (-x3) (-y3) (-z3) = lenF x0 y0 z0 x1 y1 z1 x2 y2 z2 x3 y3 z3 := by
  have e : ∀ x y : Int, (-x) - (-y) = -(x - y) := fun _ _ => by omega
  unfold lenF
  simp only [e, wayF_neg]

theorem blk_set {W : World} {b : Nat} {cs : Array Value} (h : ∀ o, W.cell? ⟨b, o, none⟩ = cs[o]?) (i : Nat) (v : Value) (hi : i < cs.size) : ∀ o, (W.setCell ⟨b, i, none⟩ v).cell? ⟨b, o, none⟩ = (cs.setIfInBounds i v)[o]? := by
  intro o
  by_cases e : i = o
  · subst e
    rw [Array.getElem?_setIfInBounds_self_of_lt hi]
    exact World.cell?_setCell_same _ _ _ ((h i).trans (Array.getElem?_eq_getElem hi))
  · rw [Array.getElem?_setIfInBounds_ne e, ← h o]
    exact World.cell?_setCell_other _ _ _ _ (by simp [e])
theorem blk_set3 {W : World} {b : Nat} {cs cs' : Array Value} (h : ∀ o, W.cell? ⟨b, o, none⟩ = cs[o]?) {i j k : Nat} {u v x : Value} (hi : i < cs.size) (hj : j < cs.size) (hk : k < cs.size) (e : ((cs.setIfInBounds i u).setIfInBounds j v).setIfInBounds k x = cs') :
    ∀ o, (((W.setCell ⟨b, i, none⟩ u).setCell ⟨b, j, none⟩ v).setCell ⟨b, k, none⟩ x).cell? ⟨b, o, none⟩ = cs'[o]? := by
  subst e
  exact blk_set (blk_set (blk_set h i u hi) j v (by simpa using hj)) k x (by simpa using hk)
theorem blk_far {W : World} {b b' : Nat} {cs : Array Value} (hn : b' ≠ b) (h : ∀ o, W.cell? ⟨b, o, none⟩ = cs[o]?) {i : Nat} {v : Value} : ∀ o, (W.setCell ⟨b', i, none⟩ v).cell? ⟨b, o, none⟩ = cs[o]? := by
  intro o
  rw [← h o]
  exact World.cell?_setCell_other _ _ _ _ (by simp [hn])
theorem blk_far3 {W : World} {b b' : Nat} {cs : Array Value} (hn : b' ≠ b) (h : ∀ o, W.cell? ⟨b, o, none⟩ = cs[o]?) {i j k : Nat} {u v x : Value} : ∀ o, (((W.setCell ⟨b', i, none⟩ u).setCell ⟨b', j, none⟩ v).setCell ⟨b', k, none⟩ x).cell? ⟨b, o, none⟩ = cs[o]? :=
  blk_far hn (blk_far hn (blk_far hn h))
/-- No cell of a block is frozen, behind a call. -/
theorem fro_later {W w' : World} {b : Nat} (hl : b < W.heap.size) (hb : Below W.heap.size W w') (h : ∀ o, W.frozen? ⟨b, o, none⟩ = false) : ∀ o, w'.frozen? ⟨b, o, none⟩ = false := fun o => (hb.frozen (p := ⟨b, o, none⟩) hl).trans (h o)
theorem blk_lt {W : World} {b : Nat} {cs : Array Value} (hs : 0 < cs.size) (h : ∀ o, W.cell? ⟨b, o, none⟩ = cs[o]?) : b < W.heap.size := by
  have h0 := h 0
  rw [Array.getElem?_eq_getElem hs] at h0
  exact World.block_lt_of_cell? W ⟨b, 0, none⟩ h0
theorem fro_step {W w' : World} {b : Nat} (hb : Below W.heap.size W w') (h : ∀ o, W.frozen? ⟨b, o, none⟩ = false) (hl : b < W.heap.size) : ∀ o, w'.frozen? ⟨b, o, none⟩ = false := fro_later hl hb h
/-- Where the loop stands. -/
def MovRel (g B b0 b1 : Nat) (cs : Array Value) (bs : Array Value) (q0 q1 q2 q3 q4 m0 m1 m2 m3 m4 : Array Value) (w : World) (k : Nat) (i : Value) (wr : World) : Prop :=
  ((k = 4 ∧ i = .int .i64 0 ∧ 0 ≤ g ∧ (∀ o, wr.cell? ⟨b0, o, none⟩ = q0[o]?) ∧ (∀ o, wr.cell? ⟨b1, o, none⟩ = m0[o]?)) ∨ (k = 3 ∧ i = .int .i64 1 ∧ 1 ≤ g ∧ (∀ o, wr.cell? ⟨b0, o, none⟩ = q1[o]?) ∧ (∀ o, wr.cell? ⟨b1, o, none⟩ = m1[o]?)) ∨
   (k = 2 ∧ i = .int .i64 2 ∧ 2 ≤ g ∧ (∀ o, wr.cell? ⟨b0, o, none⟩ = q2[o]?) ∧ (∀ o, wr.cell? ⟨b1, o, none⟩ = m2[o]?)) ∨ (k = 1 ∧ i = .int .i64 3 ∧ 3 ≤ g ∧ (∀ o, wr.cell? ⟨b0, o, none⟩ = q3[o]?) ∧ (∀ o, wr.cell? ⟨b1, o, none⟩ = m3[o]?)) ∨
   (k = 0 ∧ i = .int .i64 4 ∧ 4 ≤ g ∧ (∀ o, wr.cell? ⟨b0, o, none⟩ = q4[o]?) ∧ (∀ o, wr.cell? ⟨b1, o, none⟩ = m4[o]?))) ∧
  (∀ o, wr.cell? ⟨B, o, none⟩ = cs[o]?) ∧ (∀ o, wr.cell? ⟨B + 1, o, none⟩ = bs[o]?) ∧ (∀ o, wr.frozen? ⟨b0, o, none⟩ = false) ∧ (∀ o, wr.frozen? ⟨b1, o, none⟩ = false) ∧ Below B w wr
theorem add_in (x y z a b c : Int) (k1 : -65536 ≤ x + a ∧ x + a ≤ 65536) (k2 : -65536 ≤ y + b ∧ y + b ≤ 65536) (k3 : -65536 ≤ z + c ∧ z + c ≤ 65536) (w : World) : Calls Try.prog 18 #[V3 x y z, V3 a b c] w fun e w' => e = .returned (V3 (x + a) (y + b) (z + c)) ∧ Below w.heap.size w w' := by
  have := radd_any x y z a b c w
  rw [w64 (x := x + a) (by omega) (by omega), w64 (x := y + b) (by omega) (by omega), w64 (x := z + c) (by omega) (by omega)] at this
  exact this
theorem neg_in (x y z : Int) (k1 : -65536 ≤ x ∧ x ≤ 65536) (k2 : -65536 ≤ y ∧ y ≤ 65536) (k3 : -65536 ≤ z ∧ z ≤ 65536) (w : World) : Calls Try.prog 19 #[V3 x y z, .int .i64 (-1)] w fun e w' => e = .returned (V3 (-x) (-y) (-z)) ∧ Below w.heap.size w w' := by
  have := rscale_any x y z (-1) w
  rw [w64 (x := x * -1) (by omega) (by omega), w64 (x := y * -1) (by omega) (by omega), w64 (x := z * -1) (by omega) (by omega), Int.mul_neg_one, Int.mul_neg_one, Int.mul_neg_one] at this
  exact this
set_option maxHeartbeats 4000000 in
theorem moved_4 (x0 y0 z0 x1 y1 z1 x2 y2 z2 x3 y3 z3 a b c : Int) (hby : inB a b c 16384 = true) (h0 : inB x0 y0 z0 32768 = true) (h1 : inB x1 y1 z1 32768 = true) (h2 : inB x2 y2 z2 32768 = true) (h3 : inB x3 y3 z3 32768 = true) (w : World) :
    Calls Try.prog 4 #[.agg (C12 x0 y0 z0 x1 y1 z1 x2 y2 z2 x3 y3 z3), V3 a b c] w fun e w' => e = .returned (.bool true) ∧ Below w.heap.size w w' := by
  have WB : Hid (∀ w, Calls Try.prog 17 #[V3 a b c, .int .i64 16384] w fun e w' => e = .returned (.bool true) ∧ Below w.heap.size w w') := by
    intro w; have := within_any a b c 16384 w; rw [hby] at this; exact this
  have W0 : Hid (∀ w, Calls Try.prog 17 #[V3 x0 y0 z0, .int .i64 32768] w fun e w' => e = .returned (.bool true) ∧ Below w.heap.size w w') := by
    intro w; have := within_any x0 y0 z0 32768 w; rw [h0] at this; exact this
  have W1 : Hid (∀ w, Calls Try.prog 17 #[V3 x1 y1 z1, .int .i64 32768] w fun e w' => e = .returned (.bool true) ∧ Below w.heap.size w w') := by
    intro w; have := within_any x1 y1 z1 32768 w; rw [h1] at this; exact this
  have W2 : Hid (∀ w, Calls Try.prog 17 #[V3 x2 y2 z2, .int .i64 32768] w fun e w' => e = .returned (.bool true) ∧ Below w.heap.size w w') := by
    intro w; have := within_any x2 y2 z2 32768 w; rw [h2] at this; exact this
  have W3 : Hid (∀ w, Calls Try.prog 17 #[V3 x3 y3 z3, .int .i64 32768] w fun e w' => e = .returned (.bool true) ∧ Below w.heap.size w w') := by
    intro w; have := within_any x3 y3 z3 32768 w; rw [h3] at this; exact this
  have a0 : allIn x0 y0 z0 x1 y1 z1 x2 y2 z2 x3 y3 z3 = true := by
    rw [inB_iff (by omega) (by omega)] at h0 h1 h2 h3
    simp only [allIn, Bool.and_eq_true]
    refine ⟨⟨⟨?_, ?_⟩, ?_⟩, ?_⟩ <;> (rw [inB_iff (by omega) (by omega)]; omega)
  have a1 : allIn (x0 + a) (y0 + b) (z0 + c) (x1 + a) (y1 + b) (z1 + c) (x2 + a) (y2 + b) (z2 + c) (x3 + a) (y3 + b) (z3 + c) = true := by
    rw [inB_iff (by omega) (by omega)] at h0 h1 h2 h3 hby
    simp only [allIn, Bool.and_eq_true]
    refine ⟨⟨⟨?_, ?_⟩, ?_⟩, ?_⟩ <;> (rw [inB_iff (by omega) (by omega)]; omega)
  have a2 : allIn (-x0) (-y0) (-z0) (-x1) (-y1) (-z1) (-x2) (-y2) (-z2) (-x3) (-y3) (-z3) = true := by
    rw [inB_iff (by omega) (by omega)] at h0 h1 h2 h3
    simp only [allIn, Bool.and_eq_true]
    refine ⟨⟨⟨?_, ?_⟩, ?_⟩, ?_⟩ <;> (rw [inB_iff (by omega) (by omega)]; omega)
  have L0 := len_any x0 y0 z0 x1 y1 z1 x2 y2 z2 x3 y3 z3
  have L1 := len_any (x0 + a) (y0 + b) (z0 + c) (x1 + a) (y1 + b) (z1 + c) (x2 + a) (y2 + b) (z2 + c) (x3 + a) (y3 + b) (z3 + c)
  have L2 := len_any (-x0) (-y0) (-z0) (-x1) (-y1) (-z1) (-x2) (-y2) (-z2) (-x3) (-y3) (-z3)
  rw [a0, if_pos rfl] at L0
  rw [a1, if_pos rfl, lenF_moved] at L1
  rw [a2, if_pos rfl, lenF_neg] at L2
  obtain ⟨n, hn⟩ : ∃ n, lenF x0 y0 z0 x1 y1 z1 x2 y2 z2 x3 y3 z3 = n := ⟨_, rfl⟩
  rw [hn] at L0 L1 L2
  have L0 := Lib.hid L0
  have L1 := Lib.hid L1
  have L2 := Lib.hid L2
  clear hn a0 a1 a2
  rw [inB_iff (by omega) (by omega)] at hby
  rw [inB_iff (by omega) (by omega)] at h0
  rw [inB_iff (by omega) (by omega)] at h1
  rw [inB_iff (by omega) (by omega)] at h2
  rw [inB_iff (by omega) (by omega)] at h3
  have A0 := Lib.hid (add_in x0 y0 z0 a b c (by omega) (by omega) (by omega))
  have N0 := Lib.hid (neg_in x0 y0 z0 (by omega) (by omega) (by omega))
  have A1 := Lib.hid (add_in x1 y1 z1 a b c (by omega) (by omega) (by omega))
  have N1 := Lib.hid (neg_in x1 y1 z1 (by omega) (by omega) (by omega))
  have A2 := Lib.hid (add_in x2 y2 z2 a b c (by omega) (by omega) (by omega))
  have N2 := Lib.hid (neg_in x2 y2 z2 (by omega) (by omega) (by omega))
  have A3 := Lib.hid (add_in x3 y3 z3 a b c (by omega) (by omega) (by omega))
  have N3 := Lib.hid (neg_in x3 y3 z3 (by omega) (by omega) (by omega))
  clear hby h0 h1 h2 h3
  go_enter Try.func4, Try.ntmps4
  go_wp2_with (first | (go_at_call 14; ((with_reducible refine (alive12_any _).mono ?_); rintro e w1 ⟨rfl, hb1⟩; have p1 := blk_later (cs := (C12 x0 y0 z0 x1 y1 z1 x2 y2 z2 x3 y3 z3)) (by simp) hb1 (blk_alloc (by simp) _ (fun o => by rw [World.cell?_alloc_new])); have c1 : ∀ o, w1.cell? ⟨w.heap.size + 1, o, none⟩ = (#[.int .i64 a, .int .i64 b, .int .i64 c] : Array Value)[o]? := blk_later (by simp) hb1 (fun o => by simp))) | (go_at_call 17; ((with_reducible refine (WB.out _).mono ?_); rintro e w2 ⟨rfl, hb2⟩; have p2 := blk_later (by simp) hb2 p1; have c2 := blk_later (by simp) hb2 c1; have hs0 : w.heap.size < w2.heap.size := blk_lt (by simp) p2; have hs1 : w.heap.size + 1 < w2.heap.size := blk_lt (by simp) c2; clear p1 c1)))
  have p3 := blk_alloc (by simp) (.cells (C12 x0 y0 z0 x1 y1 z1 x2 y2 z2 x3 y3 z3) 24) (blk_alloc (by simp) (.cells (C12 x0 y0 z0 x1 y1 z1 x2 y2 z2 x3 y3 z3) 24) p2)
  have c3 := blk_alloc (by simp) (.cells (C12 x0 y0 z0 x1 y1 z1 x2 y2 z2 x3 y3 z3) 24) (blk_alloc (by simp) (.cells (C12 x0 y0 z0 x1 y1 z1 x2 y2 z2 x3 y3 z3) 24) c2)
  clear p2 c2
  go_loopg [7] 4 (fun k i wr => MovRel 4 w.heap.size w2.heap.size (w2.heap.size + 1) (C12 x0 y0 z0 x1 y1 z1 x2 y2 z2 x3 y3 z3) #[.int .i64 a, .int .i64 b, .int .i64 c] #[.int .i64 x0, .int .i64 y0, .int .i64 z0, .int .i64 x1, .int .i64 y1, .int .i64 z1, .int .i64 x2, .int .i64 y2, .int .i64 z2, .int .i64 x3, .int .i64 y3, .int .i64 z3] #[.int .i64 (x0 + a), .int .i64 (y0 + b), .int .i64 (z0 + c), .int .i64 x1, .int .i64 y1, .int .i64 z1, .int .i64 x2, .int .i64 y2, .int .i64 z2, .int .i64 x3, .int .i64 y3, .int .i64 z3] #[.int .i64 (x0 + a), .int .i64 (y0 + b), .int .i64 (z0 + c), .int .i64 (x1 + a), .int .i64 (y1 + b), .int .i64 (z1 + c), .int .i64 x2, .int .i64 y2, .int .i64 z2, .int .i64 x3, .int .i64 y3, .int .i64 z3] #[.int .i64 (x0 + a), .int .i64 (y0 + b), .int .i64 (z0 + c), .int .i64 (x1 + a), .int .i64 (y1 + b), .int .i64 (z1 + c), .int .i64 (x2 + a), .int .i64 (y2 + b), .int .i64 (z2 + c), .int .i64 x3, .int .i64 y3, .int .i64 z3] #[.int .i64 (x0 + a), .int .i64 (y0 + b), .int .i64 (z0 + c), .int .i64 (x1 + a), .int .i64 (y1 + b), .int .i64 (z1 + c), .int .i64 (x2 + a), .int .i64 (y2 + b), .int .i64 (z2 + c), .int .i64 (x3 + a), .int .i64 (y3 + b), .int .i64 (z3 + c)] #[.int .i64 x0, .int .i64 y0, .int .i64 z0, .int .i64 x1, .int .i64 y1, .int .i64 z1, .int .i64 x2, .int .i64 y2, .int .i64 z2, .int .i64 x3, .int .i64 y3, .int .i64 z3] #[.int .i64 (-x0), .int .i64 (-y0), .int .i64 (-z0), .int .i64 x1, .int .i64 y1, .int .i64 z1, .int .i64 x2, .int .i64 y2, .int .i64 z2, .int .i64 x3, .int .i64 y3, .int .i64 z3] #[.int .i64 (-x0), .int .i64 (-y0), .int .i64 (-z0), .int .i64 (-x1), .int .i64 (-y1), .int .i64 (-z1), .int .i64 x2, .int .i64 y2, .int .i64 z2, .int .i64 x3, .int .i64 y3, .int .i64 z3] #[.int .i64 (-x0), .int .i64 (-y0), .int .i64 (-z0), .int .i64 (-x1), .int .i64 (-y1), .int .i64 (-z1), .int .i64 (-x2), .int .i64 (-y2), .int .i64 (-z2), .int .i64 x3, .int .i64 y3, .int .i64 z3] #[.int .i64 (-x0), .int .i64 (-y0), .int .i64 (-z0), .int .i64 (-x1), .int .i64 (-y1), .int .i64 (-z1), .int .i64 (-x2), .int .i64 (-y2), .int .i64 (-z2), .int .i64 (-x3), .int .i64 (-y3), .int .i64 (-z3)] w k i wr)
  case atStart => exact ⟨.inl ⟨rfl, rfl, by omega, fun o => by simp, fun o => by simp⟩, p3, c3, fun o => by simp, fun o => by simp, by (repeat' (first | (with_reducible exact Below.refl _ _) | (with_reducible refine bstep (by with_reducible assumption) ?_) | (with_reducible refine Below.alloc ?_ ?_ _) | (with_reducible refine Below.drew ?_) | (with_reducible refine below_drewN ?_ _) | (with_reducible refine Below.setCell ?_ ?_ _) | go_size))⟩
  case round =>
    clear p3 c3
    obtain ⟨hk, hp, hc, f0, f1, hB⟩ := hrel
    have HB := Lib.hid hB
    clear hB
    rcases hk with ⟨rfl, rfl, hg, hq, hm⟩ | ⟨rfl, rfl, hg, hq, hm⟩ | ⟨rfl, rfl, hg, hq, hm⟩ | ⟨rfl, rfl, hg, hq, hm⟩ | ⟨rfl, rfl, hg, hq, hm⟩
    · have ne0 : w2.heap.size ≠ w.heap.size := by omega
      have ne1 : w2.heap.size ≠ w.heap.size + 1 := by omega
      have ne2 : w2.heap.size + 1 ≠ w.heap.size := by omega
      have ne3 : w2.heap.size + 1 ≠ w.heap.size + 1 := by omega
      have ne4 : w2.heap.size + 1 ≠ w2.heap.size := by omega
      have ne5 : w2.heap.size ≠ w2.heap.size + 1 := by omega
      go_wp2_with (go_at_call 17; ((with_reducible refine (W0.out _).mono ?_); rintro e w3 ⟨rfl, hb3⟩))
      have hp3 := blk_later (by simp) hb3 hp
      have hc3 := blk_later (by simp) hb3 hc
      have hq3 := blk_later (by simp) hb3 hq
      have hm3 := blk_later (by simp) hb3 hm
      have f03 := fro_later (blk_lt (by simp) hq) hb3 f0
      have f13 := fro_later (blk_lt (by simp) hm) hb3 f1
      have hs3 : w2.heap.size + 1 < w3.heap.size := blk_lt (by simp) hm3
      have hs2 : w2.heap.size < w3.heap.size := by omega
      have hs4 : w2.heap.size + 1 < w3.drew.heap.size := hs3
      clear hp hc hq hm f0 f1
      go_region_with (first | (go_at_call 18; ((with_reducible refine (A0.out _).mono ?_); rintro e w5 ⟨rfl, hb5⟩; have hp5 := blk_later (by simp) hb5 (blk_drew hp3); have hc5 := blk_later (by simp) hb5 (blk_drew hc3); have hq5 := blk_later (by simp) hb5 (blk_drew hq3); have hm5 := blk_later (by simp) hb5 (blk_drew hm3); have f05 := fro_later (W := w3.drew) hs2 hb5 f03; have f15 := fro_later (W := w3.drew) hs3 hb5 f13)))
      all_goals
        have hp6 := blk_far3 ne0 hp5 (i := 0) (j := 1) (k := 2) (u := .int .i64 (x0 + a)) (v := .int .i64 (y0 + b)) (x := .int .i64 (z0 + c))
        have hc6 := blk_far3 ne1 hc5 (i := 0) (j := 1) (k := 2) (u := .int .i64 (x0 + a)) (v := .int .i64 (y0 + b)) (x := .int .i64 (z0 + c))
        have hm6 := blk_far3 ne5 hm5 (i := 0) (j := 1) (k := 2) (u := .int .i64 (x0 + a)) (v := .int .i64 (y0 + b)) (x := .int .i64 (z0 + c))
        have hq6 := blk_set3 (cs' := #[.int .i64 (x0 + a), .int .i64 (y0 + b), .int .i64 (z0 + c), .int .i64 x1, .int .i64 y1, .int .i64 z1, .int .i64 x2, .int .i64 y2, .int .i64 z2, .int .i64 x3, .int .i64 y3, .int .i64 z3]) hq5 (i := 0) (j := 1) (k := 2) (u := .int .i64 (x0 + a)) (v := .int .i64 (y0 + b)) (x := .int .i64 (z0 + c)) (by simp) (by simp) (by simp) rfl
        clear hp3 hc3 hq3 hm3 f03 f13 hp5 hc5 hq5 hm5
        go_wp2_with (go_at_call 19; ((with_reducible refine (N0.out _).mono ?_); rintro e w7 ⟨rfl, hb7⟩; have hp7 := blk_later (by simp) hb7 hp6; have hc7 := blk_later (by simp) hb7 hc6; have hq7 := blk_later (by simp) hb7 hq6; have hm7 := blk_later (by simp) hb7 hm6; have f07 : ∀ o, w7.frozen? ⟨w2.heap.size, o, none⟩ = false := fro_later (blk_lt (by simp) hq6) hb7 (fun o => by simp [f05]); have f17 : ∀ o, w7.frozen? ⟨w2.heap.size + 1, o, none⟩ = false := fro_later (blk_lt (by simp) hm6) hb7 (fun o => by simp [f15]); clear hp6 hc6 hq6 hm6 f05 f15))
        go_roundg 3
        case measure => omega
        case rel =>
          have HB' := HB.out
          exact ⟨.inr (.inl ⟨rfl, by simp, by omega, blk_far3 ne4 hq7, blk_set3 hm7 (by simp) (by simp) (by simp) rfl⟩), blk_far3 ne2 hp7, blk_far3 ne3 hc7, fun o => by simp [f07], fun o => by simp [f17], by (repeat' (first | (with_reducible exact Below.refl _ _) | (with_reducible refine bstep (by with_reducible assumption) ?_) | (with_reducible refine Below.alloc ?_ ?_ _) | (with_reducible refine Below.drew ?_) | (with_reducible refine below_drewN ?_ _) | (with_reducible refine Below.setCell ?_ ?_ _) | go_size))⟩
    · have ne0 : w2.heap.size ≠ w.heap.size := by omega
      have ne1 : w2.heap.size ≠ w.heap.size + 1 := by omega
      have ne2 : w2.heap.size + 1 ≠ w.heap.size := by omega
      have ne3 : w2.heap.size + 1 ≠ w.heap.size + 1 := by omega
      have ne4 : w2.heap.size + 1 ≠ w2.heap.size := by omega
      have ne5 : w2.heap.size ≠ w2.heap.size + 1 := by omega
      go_wp2_with (go_at_call 17; ((with_reducible refine (W1.out _).mono ?_); rintro e w3 ⟨rfl, hb3⟩))
      have hp3 := blk_later (by simp) hb3 hp
      have hc3 := blk_later (by simp) hb3 hc
      have hq3 := blk_later (by simp) hb3 hq
      have hm3 := blk_later (by simp) hb3 hm
      have f03 := fro_later (blk_lt (by simp) hq) hb3 f0
      have f13 := fro_later (blk_lt (by simp) hm) hb3 f1
      have hs3 : w2.heap.size + 1 < w3.heap.size := blk_lt (by simp) hm3
      have hs2 : w2.heap.size < w3.heap.size := by omega
      have hs4 : w2.heap.size + 1 < w3.drew.heap.size := hs3
      clear hp hc hq hm f0 f1
      go_region_with (first | (go_at_call 18; ((with_reducible refine (A1.out _).mono ?_); rintro e w5 ⟨rfl, hb5⟩; have hp5 := blk_later (by simp) hb5 (blk_drew hp3); have hc5 := blk_later (by simp) hb5 (blk_drew hc3); have hq5 := blk_later (by simp) hb5 (blk_drew hq3); have hm5 := blk_later (by simp) hb5 (blk_drew hm3); have f05 := fro_later (W := w3.drew) hs2 hb5 f03; have f15 := fro_later (W := w3.drew) hs3 hb5 f13)))
      all_goals
        have hp6 := blk_far3 ne0 hp5 (i := 3) (j := 4) (k := 5) (u := .int .i64 (x1 + a)) (v := .int .i64 (y1 + b)) (x := .int .i64 (z1 + c))
        have hc6 := blk_far3 ne1 hc5 (i := 3) (j := 4) (k := 5) (u := .int .i64 (x1 + a)) (v := .int .i64 (y1 + b)) (x := .int .i64 (z1 + c))
        have hm6 := blk_far3 ne5 hm5 (i := 3) (j := 4) (k := 5) (u := .int .i64 (x1 + a)) (v := .int .i64 (y1 + b)) (x := .int .i64 (z1 + c))
        have hq6 := blk_set3 (cs' := #[.int .i64 (x0 + a), .int .i64 (y0 + b), .int .i64 (z0 + c), .int .i64 (x1 + a), .int .i64 (y1 + b), .int .i64 (z1 + c), .int .i64 x2, .int .i64 y2, .int .i64 z2, .int .i64 x3, .int .i64 y3, .int .i64 z3]) hq5 (i := 3) (j := 4) (k := 5) (u := .int .i64 (x1 + a)) (v := .int .i64 (y1 + b)) (x := .int .i64 (z1 + c)) (by simp) (by simp) (by simp) rfl
        clear hp3 hc3 hq3 hm3 f03 f13 hp5 hc5 hq5 hm5
        go_wp2_with (go_at_call 19; ((with_reducible refine (N1.out _).mono ?_); rintro e w7 ⟨rfl, hb7⟩; have hp7 := blk_later (by simp) hb7 hp6; have hc7 := blk_later (by simp) hb7 hc6; have hq7 := blk_later (by simp) hb7 hq6; have hm7 := blk_later (by simp) hb7 hm6; have f07 : ∀ o, w7.frozen? ⟨w2.heap.size, o, none⟩ = false := fro_later (blk_lt (by simp) hq6) hb7 (fun o => by simp [f05]); have f17 : ∀ o, w7.frozen? ⟨w2.heap.size + 1, o, none⟩ = false := fro_later (blk_lt (by simp) hm6) hb7 (fun o => by simp [f15]); clear hp6 hc6 hq6 hm6 f05 f15))
        go_roundg 2
        case measure => omega
        case rel =>
          have HB' := HB.out
          exact ⟨.inr (.inr (.inl ⟨rfl, by simp, by omega, blk_far3 ne4 hq7, blk_set3 hm7 (by simp) (by simp) (by simp) rfl⟩)), blk_far3 ne2 hp7, blk_far3 ne3 hc7, fun o => by simp [f07], fun o => by simp [f17], by (repeat' (first | (with_reducible exact Below.refl _ _) | (with_reducible refine bstep (by with_reducible assumption) ?_) | (with_reducible refine Below.alloc ?_ ?_ _) | (with_reducible refine Below.drew ?_) | (with_reducible refine below_drewN ?_ _) | (with_reducible refine Below.setCell ?_ ?_ _) | go_size))⟩
    · have ne0 : w2.heap.size ≠ w.heap.size := by omega
      have ne1 : w2.heap.size ≠ w.heap.size + 1 := by omega
      have ne2 : w2.heap.size + 1 ≠ w.heap.size := by omega
      have ne3 : w2.heap.size + 1 ≠ w.heap.size + 1 := by omega
      have ne4 : w2.heap.size + 1 ≠ w2.heap.size := by omega
      have ne5 : w2.heap.size ≠ w2.heap.size + 1 := by omega
      go_wp2_with (go_at_call 17; ((with_reducible refine (W2.out _).mono ?_); rintro e w3 ⟨rfl, hb3⟩))
      have hp3 := blk_later (by simp) hb3 hp
      have hc3 := blk_later (by simp) hb3 hc
      have hq3 := blk_later (by simp) hb3 hq
      have hm3 := blk_later (by simp) hb3 hm
      have f03 := fro_later (blk_lt (by simp) hq) hb3 f0
      have f13 := fro_later (blk_lt (by simp) hm) hb3 f1
      have hs3 : w2.heap.size + 1 < w3.heap.size := blk_lt (by simp) hm3
      have hs2 : w2.heap.size < w3.heap.size := by omega
      have hs4 : w2.heap.size + 1 < w3.drew.heap.size := hs3
      clear hp hc hq hm f0 f1
      go_region_with (first | (go_at_call 18; ((with_reducible refine (A2.out _).mono ?_); rintro e w5 ⟨rfl, hb5⟩; have hp5 := blk_later (by simp) hb5 (blk_drew hp3); have hc5 := blk_later (by simp) hb5 (blk_drew hc3); have hq5 := blk_later (by simp) hb5 (blk_drew hq3); have hm5 := blk_later (by simp) hb5 (blk_drew hm3); have f05 := fro_later (W := w3.drew) hs2 hb5 f03; have f15 := fro_later (W := w3.drew) hs3 hb5 f13)))
      all_goals
        have hp6 := blk_far3 ne0 hp5 (i := 6) (j := 7) (k := 8) (u := .int .i64 (x2 + a)) (v := .int .i64 (y2 + b)) (x := .int .i64 (z2 + c))
        have hc6 := blk_far3 ne1 hc5 (i := 6) (j := 7) (k := 8) (u := .int .i64 (x2 + a)) (v := .int .i64 (y2 + b)) (x := .int .i64 (z2 + c))
        have hm6 := blk_far3 ne5 hm5 (i := 6) (j := 7) (k := 8) (u := .int .i64 (x2 + a)) (v := .int .i64 (y2 + b)) (x := .int .i64 (z2 + c))
        have hq6 := blk_set3 (cs' := #[.int .i64 (x0 + a), .int .i64 (y0 + b), .int .i64 (z0 + c), .int .i64 (x1 + a), .int .i64 (y1 + b), .int .i64 (z1 + c), .int .i64 (x2 + a), .int .i64 (y2 + b), .int .i64 (z2 + c), .int .i64 x3, .int .i64 y3, .int .i64 z3]) hq5 (i := 6) (j := 7) (k := 8) (u := .int .i64 (x2 + a)) (v := .int .i64 (y2 + b)) (x := .int .i64 (z2 + c)) (by simp) (by simp) (by simp) rfl
        clear hp3 hc3 hq3 hm3 f03 f13 hp5 hc5 hq5 hm5
        go_wp2_with (go_at_call 19; ((with_reducible refine (N2.out _).mono ?_); rintro e w7 ⟨rfl, hb7⟩; have hp7 := blk_later (by simp) hb7 hp6; have hc7 := blk_later (by simp) hb7 hc6; have hq7 := blk_later (by simp) hb7 hq6; have hm7 := blk_later (by simp) hb7 hm6; have f07 : ∀ o, w7.frozen? ⟨w2.heap.size, o, none⟩ = false := fro_later (blk_lt (by simp) hq6) hb7 (fun o => by simp [f05]); have f17 : ∀ o, w7.frozen? ⟨w2.heap.size + 1, o, none⟩ = false := fro_later (blk_lt (by simp) hm6) hb7 (fun o => by simp [f15]); clear hp6 hc6 hq6 hm6 f05 f15))
        go_roundg 1
        case measure => omega
        case rel =>
          have HB' := HB.out
          exact ⟨.inr (.inr (.inr (.inl ⟨rfl, by simp, by omega, blk_far3 ne4 hq7, blk_set3 hm7 (by simp) (by simp) (by simp) rfl⟩))), blk_far3 ne2 hp7, blk_far3 ne3 hc7, fun o => by simp [f07], fun o => by simp [f17], by (repeat' (first | (with_reducible exact Below.refl _ _) | (with_reducible refine bstep (by with_reducible assumption) ?_) | (with_reducible refine Below.alloc ?_ ?_ _) | (with_reducible refine Below.drew ?_) | (with_reducible refine below_drewN ?_ _) | (with_reducible refine Below.setCell ?_ ?_ _) | go_size))⟩
    · have ne0 : w2.heap.size ≠ w.heap.size := by omega
      have ne1 : w2.heap.size ≠ w.heap.size + 1 := by omega
      have ne2 : w2.heap.size + 1 ≠ w.heap.size := by omega
      have ne3 : w2.heap.size + 1 ≠ w.heap.size + 1 := by omega
      have ne4 : w2.heap.size + 1 ≠ w2.heap.size := by omega
      have ne5 : w2.heap.size ≠ w2.heap.size + 1 := by omega
      go_wp2_with (go_at_call 17; ((with_reducible refine (W3.out _).mono ?_); rintro e w3 ⟨rfl, hb3⟩))
      have hp3 := blk_later (by simp) hb3 hp
      have hc3 := blk_later (by simp) hb3 hc
      have hq3 := blk_later (by simp) hb3 hq
      have hm3 := blk_later (by simp) hb3 hm
      have f03 := fro_later (blk_lt (by simp) hq) hb3 f0
      have f13 := fro_later (blk_lt (by simp) hm) hb3 f1
      have hs3 : w2.heap.size + 1 < w3.heap.size := blk_lt (by simp) hm3
      have hs2 : w2.heap.size < w3.heap.size := by omega
      have hs4 : w2.heap.size + 1 < w3.drew.heap.size := hs3
      clear hp hc hq hm f0 f1
      go_region_with (first | (go_at_call 18; ((with_reducible refine (A3.out _).mono ?_); rintro e w5 ⟨rfl, hb5⟩; have hp5 := blk_later (by simp) hb5 (blk_drew hp3); have hc5 := blk_later (by simp) hb5 (blk_drew hc3); have hq5 := blk_later (by simp) hb5 (blk_drew hq3); have hm5 := blk_later (by simp) hb5 (blk_drew hm3); have f05 := fro_later (W := w3.drew) hs2 hb5 f03; have f15 := fro_later (W := w3.drew) hs3 hb5 f13)))
      all_goals
        have hp6 := blk_far3 ne0 hp5 (i := 9) (j := 10) (k := 11) (u := .int .i64 (x3 + a)) (v := .int .i64 (y3 + b)) (x := .int .i64 (z3 + c))
        have hc6 := blk_far3 ne1 hc5 (i := 9) (j := 10) (k := 11) (u := .int .i64 (x3 + a)) (v := .int .i64 (y3 + b)) (x := .int .i64 (z3 + c))
        have hm6 := blk_far3 ne5 hm5 (i := 9) (j := 10) (k := 11) (u := .int .i64 (x3 + a)) (v := .int .i64 (y3 + b)) (x := .int .i64 (z3 + c))
        have hq6 := blk_set3 (cs' := #[.int .i64 (x0 + a), .int .i64 (y0 + b), .int .i64 (z0 + c), .int .i64 (x1 + a), .int .i64 (y1 + b), .int .i64 (z1 + c), .int .i64 (x2 + a), .int .i64 (y2 + b), .int .i64 (z2 + c), .int .i64 (x3 + a), .int .i64 (y3 + b), .int .i64 (z3 + c)]) hq5 (i := 9) (j := 10) (k := 11) (u := .int .i64 (x3 + a)) (v := .int .i64 (y3 + b)) (x := .int .i64 (z3 + c)) (by simp) (by simp) (by simp) rfl
        clear hp3 hc3 hq3 hm3 f03 f13 hp5 hc5 hq5 hm5
        go_wp2_with (go_at_call 19; ((with_reducible refine (N3.out _).mono ?_); rintro e w7 ⟨rfl, hb7⟩; have hp7 := blk_later (by simp) hb7 hp6; have hc7 := blk_later (by simp) hb7 hc6; have hq7 := blk_later (by simp) hb7 hq6; have hm7 := blk_later (by simp) hb7 hm6; have f07 : ∀ o, w7.frozen? ⟨w2.heap.size, o, none⟩ = false := fro_later (blk_lt (by simp) hq6) hb7 (fun o => by simp [f05]); have f17 : ∀ o, w7.frozen? ⟨w2.heap.size + 1, o, none⟩ = false := fro_later (blk_lt (by simp) hm6) hb7 (fun o => by simp [f15]); clear hp6 hc6 hq6 hm6 f05 f15))
        go_roundg 0
        case measure => omega
        case rel =>
          have HB' := HB.out
          exact ⟨.inr (.inr (.inr (.inr (⟨rfl, by simp, by omega, blk_far3 ne4 hq7, blk_set3 hm7 (by simp) (by simp) (by simp) rfl⟩)))), blk_far3 ne2 hp7, blk_far3 ne3 hc7, fun o => by simp [f07], fun o => by simp [f17], by (repeat' (first | (with_reducible exact Below.refl _ _) | (with_reducible refine bstep (by with_reducible assumption) ?_) | (with_reducible refine Below.alloc ?_ ?_ _) | (with_reducible refine Below.drew ?_) | (with_reducible refine below_drewN ?_ _) | (with_reducible refine Below.setCell ?_ ?_ _) | go_size))⟩
    · go_wp2_with (first
        | (go_at_call 16; ((with_reducible refine (L0.out _).mono ?_); rintro e w3 ⟨rfl, hb3⟩; have hq3 := blk_later (by simp) hb3 hq; have hm3 := blk_later (by simp) hb3 hm; clear hp hc hq hm))
        | (go_at_call 16; ((with_reducible refine (L1.out _).mono ?_); rintro e w4 ⟨rfl, hb4⟩; have hm4 := blk_later (by simp) hb4 hm3; clear hq3 hm3))
        | (go_at_call 16; ((with_reducible refine (L2.out _).mono ?_); rintro e w5 ⟨rfl, hb5⟩)))
      have HB' := HB.out
      go_returns
      exact ⟨by simp, by (repeat' (first | (with_reducible exact Below.refl _ _) | (with_reducible refine bstep (by with_reducible assumption) ?_) | (with_reducible refine Below.alloc ?_ ?_ _) | (with_reducible refine Below.drew ?_) | (with_reducible refine below_drewN ?_ _) | (with_reducible refine Below.setCell ?_ ?_ _) | go_size))⟩
set_option maxHeartbeats 4000000 in
theorem moved_0 (x0 y0 z0 x1 y1 z1 x2 y2 z2 x3 y3 z3 a b c : Int) (hby : inB a b c 16384 = true) (h0 : inB x0 y0 z0 32768 = false) (w : World) :
    Calls Try.prog 4 #[.agg (C12 x0 y0 z0 x1 y1 z1 x2 y2 z2 x3 y3 z3), V3 a b c] w fun e w' => e = .returned (.bool true) ∧ Below w.heap.size w w' := by
  have WB : Hid (∀ w, Calls Try.prog 17 #[V3 a b c, .int .i64 16384] w fun e w' => e = .returned (.bool true) ∧ Below w.heap.size w w') := by
    intro w; have := within_any a b c 16384 w; rw [hby] at this; exact this
  have W0 : Hid (∀ w, Calls Try.prog 17 #[V3 x0 y0 z0, .int .i64 32768] w fun e w' => e = .returned (.bool false) ∧ Below w.heap.size w w') := by
    intro w; have := within_any x0 y0 z0 32768 w; rw [h0] at this; exact this
  rw [inB_iff (by omega) (by omega)] at hby
  clear hby h0
  go_enter Try.func4, Try.ntmps4
  go_wp2_with (first | (go_at_call 14; ((with_reducible refine (alive12_any _).mono ?_); rintro e w1 ⟨rfl, hb1⟩; have p1 := blk_later (cs := (C12 x0 y0 z0 x1 y1 z1 x2 y2 z2 x3 y3 z3)) (by simp) hb1 (blk_alloc (by simp) _ (fun o => by rw [World.cell?_alloc_new])); have c1 : ∀ o, w1.cell? ⟨w.heap.size + 1, o, none⟩ = (#[.int .i64 a, .int .i64 b, .int .i64 c] : Array Value)[o]? := blk_later (by simp) hb1 (fun o => by simp))) | (go_at_call 17; ((with_reducible refine (WB.out _).mono ?_); rintro e w2 ⟨rfl, hb2⟩; have p2 := blk_later (by simp) hb2 p1; have c2 := blk_later (by simp) hb2 c1; have hs0 : w.heap.size < w2.heap.size := blk_lt (by simp) p2; have hs1 : w.heap.size + 1 < w2.heap.size := blk_lt (by simp) c2; clear p1 c1)))
  have p3 := blk_alloc (by simp) (.cells (C12 x0 y0 z0 x1 y1 z1 x2 y2 z2 x3 y3 z3) 24) (blk_alloc (by simp) (.cells (C12 x0 y0 z0 x1 y1 z1 x2 y2 z2 x3 y3 z3) 24) p2)
  have c3 := blk_alloc (by simp) (.cells (C12 x0 y0 z0 x1 y1 z1 x2 y2 z2 x3 y3 z3) 24) (blk_alloc (by simp) (.cells (C12 x0 y0 z0 x1 y1 z1 x2 y2 z2 x3 y3 z3) 24) c2)
  clear p2 c2
  go_loopg [7] 4 (fun k i wr => MovRel 0 w.heap.size w2.heap.size (w2.heap.size + 1) (C12 x0 y0 z0 x1 y1 z1 x2 y2 z2 x3 y3 z3) #[.int .i64 a, .int .i64 b, .int .i64 c] #[.int .i64 x0, .int .i64 y0, .int .i64 z0, .int .i64 x1, .int .i64 y1, .int .i64 z1, .int .i64 x2, .int .i64 y2, .int .i64 z2, .int .i64 x3, .int .i64 y3, .int .i64 z3] #[.int .i64 (x0 + a), .int .i64 (y0 + b), .int .i64 (z0 + c), .int .i64 x1, .int .i64 y1, .int .i64 z1, .int .i64 x2, .int .i64 y2, .int .i64 z2, .int .i64 x3, .int .i64 y3, .int .i64 z3] #[.int .i64 (x0 + a), .int .i64 (y0 + b), .int .i64 (z0 + c), .int .i64 (x1 + a), .int .i64 (y1 + b), .int .i64 (z1 + c), .int .i64 x2, .int .i64 y2, .int .i64 z2, .int .i64 x3, .int .i64 y3, .int .i64 z3] #[.int .i64 (x0 + a), .int .i64 (y0 + b), .int .i64 (z0 + c), .int .i64 (x1 + a), .int .i64 (y1 + b), .int .i64 (z1 + c), .int .i64 (x2 + a), .int .i64 (y2 + b), .int .i64 (z2 + c), .int .i64 x3, .int .i64 y3, .int .i64 z3] #[.int .i64 (x0 + a), .int .i64 (y0 + b), .int .i64 (z0 + c), .int .i64 (x1 + a), .int .i64 (y1 + b), .int .i64 (z1 + c), .int .i64 (x2 + a), .int .i64 (y2 + b), .int .i64 (z2 + c), .int .i64 (x3 + a), .int .i64 (y3 + b), .int .i64 (z3 + c)] #[.int .i64 x0, .int .i64 y0, .int .i64 z0, .int .i64 x1, .int .i64 y1, .int .i64 z1, .int .i64 x2, .int .i64 y2, .int .i64 z2, .int .i64 x3, .int .i64 y3, .int .i64 z3] #[.int .i64 (-x0), .int .i64 (-y0), .int .i64 (-z0), .int .i64 x1, .int .i64 y1, .int .i64 z1, .int .i64 x2, .int .i64 y2, .int .i64 z2, .int .i64 x3, .int .i64 y3, .int .i64 z3] #[.int .i64 (-x0), .int .i64 (-y0), .int .i64 (-z0), .int .i64 (-x1), .int .i64 (-y1), .int .i64 (-z1), .int .i64 x2, .int .i64 y2, .int .i64 z2, .int .i64 x3, .int .i64 y3, .int .i64 z3] #[.int .i64 (-x0), .int .i64 (-y0), .int .i64 (-z0), .int .i64 (-x1), .int .i64 (-y1), .int .i64 (-z1), .int .i64 (-x2), .int .i64 (-y2), .int .i64 (-z2), .int .i64 x3, .int .i64 y3, .int .i64 z3] #[.int .i64 (-x0), .int .i64 (-y0), .int .i64 (-z0), .int .i64 (-x1), .int .i64 (-y1), .int .i64 (-z1), .int .i64 (-x2), .int .i64 (-y2), .int .i64 (-z2), .int .i64 (-x3), .int .i64 (-y3), .int .i64 (-z3)] w k i wr)
  case atStart => exact ⟨.inl ⟨rfl, rfl, by omega, fun o => by simp, fun o => by simp⟩, p3, c3, fun o => by simp, fun o => by simp, by (repeat' (first | (with_reducible exact Below.refl _ _) | (with_reducible refine bstep (by with_reducible assumption) ?_) | (with_reducible refine Below.alloc ?_ ?_ _) | (with_reducible refine Below.drew ?_) | (with_reducible refine below_drewN ?_ _) | (with_reducible refine Below.setCell ?_ ?_ _) | go_size))⟩
  case round =>
    clear p3 c3
    obtain ⟨hk, hp, hc, f0, f1, hB⟩ := hrel
    have HB := Lib.hid hB
    clear hB
    rcases hk with ⟨rfl, rfl, hg, hq, hm⟩ | ⟨rfl, rfl, hg, hq, hm⟩ | ⟨rfl, rfl, hg, hq, hm⟩ | ⟨rfl, rfl, hg, hq, hm⟩ | ⟨rfl, rfl, hg, hq, hm⟩
    · go_wp2_with (go_at_call 17; ((with_reducible refine (W0.out _).mono ?_); rintro e w3 ⟨rfl, hb3⟩))
      have HB' := HB.out
      go_returns
      exact ⟨by simp, by (repeat' (first | (with_reducible exact Below.refl _ _) | (with_reducible refine bstep (by with_reducible assumption) ?_) | (with_reducible refine Below.alloc ?_ ?_ _) | (with_reducible refine Below.drew ?_) | (with_reducible refine below_drewN ?_ _) | (with_reducible refine Below.setCell ?_ ?_ _) | go_size))⟩
    · exact absurd hg (by omega)
    · exact absurd hg (by omega)
    · exact absurd hg (by omega)
    · exact absurd hg (by omega)
set_option maxHeartbeats 4000000 in
theorem moved_1 (x0 y0 z0 x1 y1 z1 x2 y2 z2 x3 y3 z3 a b c : Int) (hby : inB a b c 16384 = true) (h0 : inB x0 y0 z0 32768 = true) (h1 : inB x1 y1 z1 32768 = false) (w : World) :
    Calls Try.prog 4 #[.agg (C12 x0 y0 z0 x1 y1 z1 x2 y2 z2 x3 y3 z3), V3 a b c] w fun e w' => e = .returned (.bool true) ∧ Below w.heap.size w w' := by
  have WB : Hid (∀ w, Calls Try.prog 17 #[V3 a b c, .int .i64 16384] w fun e w' => e = .returned (.bool true) ∧ Below w.heap.size w w') := by
    intro w; have := within_any a b c 16384 w; rw [hby] at this; exact this
  have W0 : Hid (∀ w, Calls Try.prog 17 #[V3 x0 y0 z0, .int .i64 32768] w fun e w' => e = .returned (.bool true) ∧ Below w.heap.size w w') := by
    intro w; have := within_any x0 y0 z0 32768 w; rw [h0] at this; exact this
  have W1 : Hid (∀ w, Calls Try.prog 17 #[V3 x1 y1 z1, .int .i64 32768] w fun e w' => e = .returned (.bool false) ∧ Below w.heap.size w w') := by
    intro w; have := within_any x1 y1 z1 32768 w; rw [h1] at this; exact this
  rw [inB_iff (by omega) (by omega)] at hby
  rw [inB_iff (by omega) (by omega)] at h0
  have A0 := Lib.hid (add_in x0 y0 z0 a b c (by omega) (by omega) (by omega))
  have N0 := Lib.hid (neg_in x0 y0 z0 (by omega) (by omega) (by omega))
  clear hby h0 h1
  go_enter Try.func4, Try.ntmps4
  go_wp2_with (first | (go_at_call 14; ((with_reducible refine (alive12_any _).mono ?_); rintro e w1 ⟨rfl, hb1⟩; have p1 := blk_later (cs := (C12 x0 y0 z0 x1 y1 z1 x2 y2 z2 x3 y3 z3)) (by simp) hb1 (blk_alloc (by simp) _ (fun o => by rw [World.cell?_alloc_new])); have c1 : ∀ o, w1.cell? ⟨w.heap.size + 1, o, none⟩ = (#[.int .i64 a, .int .i64 b, .int .i64 c] : Array Value)[o]? := blk_later (by simp) hb1 (fun o => by simp))) | (go_at_call 17; ((with_reducible refine (WB.out _).mono ?_); rintro e w2 ⟨rfl, hb2⟩; have p2 := blk_later (by simp) hb2 p1; have c2 := blk_later (by simp) hb2 c1; have hs0 : w.heap.size < w2.heap.size := blk_lt (by simp) p2; have hs1 : w.heap.size + 1 < w2.heap.size := blk_lt (by simp) c2; clear p1 c1)))
  have p3 := blk_alloc (by simp) (.cells (C12 x0 y0 z0 x1 y1 z1 x2 y2 z2 x3 y3 z3) 24) (blk_alloc (by simp) (.cells (C12 x0 y0 z0 x1 y1 z1 x2 y2 z2 x3 y3 z3) 24) p2)
  have c3 := blk_alloc (by simp) (.cells (C12 x0 y0 z0 x1 y1 z1 x2 y2 z2 x3 y3 z3) 24) (blk_alloc (by simp) (.cells (C12 x0 y0 z0 x1 y1 z1 x2 y2 z2 x3 y3 z3) 24) c2)
  clear p2 c2
  go_loopg [7] 4 (fun k i wr => MovRel 1 w.heap.size w2.heap.size (w2.heap.size + 1) (C12 x0 y0 z0 x1 y1 z1 x2 y2 z2 x3 y3 z3) #[.int .i64 a, .int .i64 b, .int .i64 c] #[.int .i64 x0, .int .i64 y0, .int .i64 z0, .int .i64 x1, .int .i64 y1, .int .i64 z1, .int .i64 x2, .int .i64 y2, .int .i64 z2, .int .i64 x3, .int .i64 y3, .int .i64 z3] #[.int .i64 (x0 + a), .int .i64 (y0 + b), .int .i64 (z0 + c), .int .i64 x1, .int .i64 y1, .int .i64 z1, .int .i64 x2, .int .i64 y2, .int .i64 z2, .int .i64 x3, .int .i64 y3, .int .i64 z3] #[.int .i64 (x0 + a), .int .i64 (y0 + b), .int .i64 (z0 + c), .int .i64 (x1 + a), .int .i64 (y1 + b), .int .i64 (z1 + c), .int .i64 x2, .int .i64 y2, .int .i64 z2, .int .i64 x3, .int .i64 y3, .int .i64 z3] #[.int .i64 (x0 + a), .int .i64 (y0 + b), .int .i64 (z0 + c), .int .i64 (x1 + a), .int .i64 (y1 + b), .int .i64 (z1 + c), .int .i64 (x2 + a), .int .i64 (y2 + b), .int .i64 (z2 + c), .int .i64 x3, .int .i64 y3, .int .i64 z3] #[.int .i64 (x0 + a), .int .i64 (y0 + b), .int .i64 (z0 + c), .int .i64 (x1 + a), .int .i64 (y1 + b), .int .i64 (z1 + c), .int .i64 (x2 + a), .int .i64 (y2 + b), .int .i64 (z2 + c), .int .i64 (x3 + a), .int .i64 (y3 + b), .int .i64 (z3 + c)] #[.int .i64 x0, .int .i64 y0, .int .i64 z0, .int .i64 x1, .int .i64 y1, .int .i64 z1, .int .i64 x2, .int .i64 y2, .int .i64 z2, .int .i64 x3, .int .i64 y3, .int .i64 z3] #[.int .i64 (-x0), .int .i64 (-y0), .int .i64 (-z0), .int .i64 x1, .int .i64 y1, .int .i64 z1, .int .i64 x2, .int .i64 y2, .int .i64 z2, .int .i64 x3, .int .i64 y3, .int .i64 z3] #[.int .i64 (-x0), .int .i64 (-y0), .int .i64 (-z0), .int .i64 (-x1), .int .i64 (-y1), .int .i64 (-z1), .int .i64 x2, .int .i64 y2, .int .i64 z2, .int .i64 x3, .int .i64 y3, .int .i64 z3] #[.int .i64 (-x0), .int .i64 (-y0), .int .i64 (-z0), .int .i64 (-x1), .int .i64 (-y1), .int .i64 (-z1), .int .i64 (-x2), .int .i64 (-y2), .int .i64 (-z2), .int .i64 x3, .int .i64 y3, .int .i64 z3] #[.int .i64 (-x0), .int .i64 (-y0), .int .i64 (-z0), .int .i64 (-x1), .int .i64 (-y1), .int .i64 (-z1), .int .i64 (-x2), .int .i64 (-y2), .int .i64 (-z2), .int .i64 (-x3), .int .i64 (-y3), .int .i64 (-z3)] w k i wr)
  case atStart => exact ⟨.inl ⟨rfl, rfl, by omega, fun o => by simp, fun o => by simp⟩, p3, c3, fun o => by simp, fun o => by simp, by (repeat' (first | (with_reducible exact Below.refl _ _) | (with_reducible refine bstep (by with_reducible assumption) ?_) | (with_reducible refine Below.alloc ?_ ?_ _) | (with_reducible refine Below.drew ?_) | (with_reducible refine below_drewN ?_ _) | (with_reducible refine Below.setCell ?_ ?_ _) | go_size))⟩
  case round =>
    clear p3 c3
    obtain ⟨hk, hp, hc, f0, f1, hB⟩ := hrel
    have HB := Lib.hid hB
    clear hB
    rcases hk with ⟨rfl, rfl, hg, hq, hm⟩ | ⟨rfl, rfl, hg, hq, hm⟩ | ⟨rfl, rfl, hg, hq, hm⟩ | ⟨rfl, rfl, hg, hq, hm⟩ | ⟨rfl, rfl, hg, hq, hm⟩
    · have ne0 : w2.heap.size ≠ w.heap.size := by omega
      have ne1 : w2.heap.size ≠ w.heap.size + 1 := by omega
      have ne2 : w2.heap.size + 1 ≠ w.heap.size := by omega
      have ne3 : w2.heap.size + 1 ≠ w.heap.size + 1 := by omega
      have ne4 : w2.heap.size + 1 ≠ w2.heap.size := by omega
      have ne5 : w2.heap.size ≠ w2.heap.size + 1 := by omega
      go_wp2_with (go_at_call 17; ((with_reducible refine (W0.out _).mono ?_); rintro e w3 ⟨rfl, hb3⟩))
      have hp3 := blk_later (by simp) hb3 hp
      have hc3 := blk_later (by simp) hb3 hc
      have hq3 := blk_later (by simp) hb3 hq
      have hm3 := blk_later (by simp) hb3 hm
      have f03 := fro_later (blk_lt (by simp) hq) hb3 f0
      have f13 := fro_later (blk_lt (by simp) hm) hb3 f1
      have hs3 : w2.heap.size + 1 < w3.heap.size := blk_lt (by simp) hm3
      have hs2 : w2.heap.size < w3.heap.size := by omega
      have hs4 : w2.heap.size + 1 < w3.drew.heap.size := hs3
      clear hp hc hq hm f0 f1
      go_region_with (first | (go_at_call 18; ((with_reducible refine (A0.out _).mono ?_); rintro e w5 ⟨rfl, hb5⟩; have hp5 := blk_later (by simp) hb5 (blk_drew hp3); have hc5 := blk_later (by simp) hb5 (blk_drew hc3); have hq5 := blk_later (by simp) hb5 (blk_drew hq3); have hm5 := blk_later (by simp) hb5 (blk_drew hm3); have f05 := fro_later (W := w3.drew) hs2 hb5 f03; have f15 := fro_later (W := w3.drew) hs3 hb5 f13)))
      all_goals
        have hp6 := blk_far3 ne0 hp5 (i := 0) (j := 1) (k := 2) (u := .int .i64 (x0 + a)) (v := .int .i64 (y0 + b)) (x := .int .i64 (z0 + c))
        have hc6 := blk_far3 ne1 hc5 (i := 0) (j := 1) (k := 2) (u := .int .i64 (x0 + a)) (v := .int .i64 (y0 + b)) (x := .int .i64 (z0 + c))
        have hm6 := blk_far3 ne5 hm5 (i := 0) (j := 1) (k := 2) (u := .int .i64 (x0 + a)) (v := .int .i64 (y0 + b)) (x := .int .i64 (z0 + c))
        have hq6 := blk_set3 (cs' := #[.int .i64 (x0 + a), .int .i64 (y0 + b), .int .i64 (z0 + c), .int .i64 x1, .int .i64 y1, .int .i64 z1, .int .i64 x2, .int .i64 y2, .int .i64 z2, .int .i64 x3, .int .i64 y3, .int .i64 z3]) hq5 (i := 0) (j := 1) (k := 2) (u := .int .i64 (x0 + a)) (v := .int .i64 (y0 + b)) (x := .int .i64 (z0 + c)) (by simp) (by simp) (by simp) rfl
        clear hp3 hc3 hq3 hm3 f03 f13 hp5 hc5 hq5 hm5
        go_wp2_with (go_at_call 19; ((with_reducible refine (N0.out _).mono ?_); rintro e w7 ⟨rfl, hb7⟩; have hp7 := blk_later (by simp) hb7 hp6; have hc7 := blk_later (by simp) hb7 hc6; have hq7 := blk_later (by simp) hb7 hq6; have hm7 := blk_later (by simp) hb7 hm6; have f07 : ∀ o, w7.frozen? ⟨w2.heap.size, o, none⟩ = false := fro_later (blk_lt (by simp) hq6) hb7 (fun o => by simp [f05]); have f17 : ∀ o, w7.frozen? ⟨w2.heap.size + 1, o, none⟩ = false := fro_later (blk_lt (by simp) hm6) hb7 (fun o => by simp [f15]); clear hp6 hc6 hq6 hm6 f05 f15))
        go_roundg 3
        case measure => omega
        case rel =>
          have HB' := HB.out
          exact ⟨.inr (.inl ⟨rfl, by simp, by omega, blk_far3 ne4 hq7, blk_set3 hm7 (by simp) (by simp) (by simp) rfl⟩), blk_far3 ne2 hp7, blk_far3 ne3 hc7, fun o => by simp [f07], fun o => by simp [f17], by (repeat' (first | (with_reducible exact Below.refl _ _) | (with_reducible refine bstep (by with_reducible assumption) ?_) | (with_reducible refine Below.alloc ?_ ?_ _) | (with_reducible refine Below.drew ?_) | (with_reducible refine below_drewN ?_ _) | (with_reducible refine Below.setCell ?_ ?_ _) | go_size))⟩
    · go_wp2_with (go_at_call 17; ((with_reducible refine (W1.out _).mono ?_); rintro e w3 ⟨rfl, hb3⟩))
      have HB' := HB.out
      go_returns
      exact ⟨by simp, by (repeat' (first | (with_reducible exact Below.refl _ _) | (with_reducible refine bstep (by with_reducible assumption) ?_) | (with_reducible refine Below.alloc ?_ ?_ _) | (with_reducible refine Below.drew ?_) | (with_reducible refine below_drewN ?_ _) | (with_reducible refine Below.setCell ?_ ?_ _) | go_size))⟩
    · exact absurd hg (by omega)
    · exact absurd hg (by omega)
    · exact absurd hg (by omega)
set_option maxHeartbeats 4000000 in
theorem moved_2 (x0 y0 z0 x1 y1 z1 x2 y2 z2 x3 y3 z3 a b c : Int) (hby : inB a b c 16384 = true) (h0 : inB x0 y0 z0 32768 = true) (h1 : inB x1 y1 z1 32768 = true) (h2 : inB x2 y2 z2 32768 = false) (w : World) :
    Calls Try.prog 4 #[.agg (C12 x0 y0 z0 x1 y1 z1 x2 y2 z2 x3 y3 z3), V3 a b c] w fun e w' => e = .returned (.bool true) ∧ Below w.heap.size w w' := by
  have WB : Hid (∀ w, Calls Try.prog 17 #[V3 a b c, .int .i64 16384] w fun e w' => e = .returned (.bool true) ∧ Below w.heap.size w w') := by
    intro w; have := within_any a b c 16384 w; rw [hby] at this; exact this
  have W0 : Hid (∀ w, Calls Try.prog 17 #[V3 x0 y0 z0, .int .i64 32768] w fun e w' => e = .returned (.bool true) ∧ Below w.heap.size w w') := by
    intro w; have := within_any x0 y0 z0 32768 w; rw [h0] at this; exact this
  have W1 : Hid (∀ w, Calls Try.prog 17 #[V3 x1 y1 z1, .int .i64 32768] w fun e w' => e = .returned (.bool true) ∧ Below w.heap.size w w') := by
    intro w; have := within_any x1 y1 z1 32768 w; rw [h1] at this; exact this
  have W2 : Hid (∀ w, Calls Try.prog 17 #[V3 x2 y2 z2, .int .i64 32768] w fun e w' => e = .returned (.bool false) ∧ Below w.heap.size w w') := by
    intro w; have := within_any x2 y2 z2 32768 w; rw [h2] at this; exact this
  rw [inB_iff (by omega) (by omega)] at hby
  rw [inB_iff (by omega) (by omega)] at h0
  rw [inB_iff (by omega) (by omega)] at h1
  have A0 := Lib.hid (add_in x0 y0 z0 a b c (by omega) (by omega) (by omega))
  have N0 := Lib.hid (neg_in x0 y0 z0 (by omega) (by omega) (by omega))
  have A1 := Lib.hid (add_in x1 y1 z1 a b c (by omega) (by omega) (by omega))
  have N1 := Lib.hid (neg_in x1 y1 z1 (by omega) (by omega) (by omega))
  clear hby h0 h1 h2
  go_enter Try.func4, Try.ntmps4
  go_wp2_with (first | (go_at_call 14; ((with_reducible refine (alive12_any _).mono ?_); rintro e w1 ⟨rfl, hb1⟩; have p1 := blk_later (cs := (C12 x0 y0 z0 x1 y1 z1 x2 y2 z2 x3 y3 z3)) (by simp) hb1 (blk_alloc (by simp) _ (fun o => by rw [World.cell?_alloc_new])); have c1 : ∀ o, w1.cell? ⟨w.heap.size + 1, o, none⟩ = (#[.int .i64 a, .int .i64 b, .int .i64 c] : Array Value)[o]? := blk_later (by simp) hb1 (fun o => by simp))) | (go_at_call 17; ((with_reducible refine (WB.out _).mono ?_); rintro e w2 ⟨rfl, hb2⟩; have p2 := blk_later (by simp) hb2 p1; have c2 := blk_later (by simp) hb2 c1; have hs0 : w.heap.size < w2.heap.size := blk_lt (by simp) p2; have hs1 : w.heap.size + 1 < w2.heap.size := blk_lt (by simp) c2; clear p1 c1)))
  have p3 := blk_alloc (by simp) (.cells (C12 x0 y0 z0 x1 y1 z1 x2 y2 z2 x3 y3 z3) 24) (blk_alloc (by simp) (.cells (C12 x0 y0 z0 x1 y1 z1 x2 y2 z2 x3 y3 z3) 24) p2)
  have c3 := blk_alloc (by simp) (.cells (C12 x0 y0 z0 x1 y1 z1 x2 y2 z2 x3 y3 z3) 24) (blk_alloc (by simp) (.cells (C12 x0 y0 z0 x1 y1 z1 x2 y2 z2 x3 y3 z3) 24) c2)
  clear p2 c2
  go_loopg [7] 4 (fun k i wr => MovRel 2 w.heap.size w2.heap.size (w2.heap.size + 1) (C12 x0 y0 z0 x1 y1 z1 x2 y2 z2 x3 y3 z3) #[.int .i64 a, .int .i64 b, .int .i64 c] #[.int .i64 x0, .int .i64 y0, .int .i64 z0, .int .i64 x1, .int .i64 y1, .int .i64 z1, .int .i64 x2, .int .i64 y2, .int .i64 z2, .int .i64 x3, .int .i64 y3, .int .i64 z3] #[.int .i64 (x0 + a), .int .i64 (y0 + b), .int .i64 (z0 + c), .int .i64 x1, .int .i64 y1, .int .i64 z1, .int .i64 x2, .int .i64 y2, .int .i64 z2, .int .i64 x3, .int .i64 y3, .int .i64 z3] #[.int .i64 (x0 + a), .int .i64 (y0 + b), .int .i64 (z0 + c), .int .i64 (x1 + a), .int .i64 (y1 + b), .int .i64 (z1 + c), .int .i64 x2, .int .i64 y2, .int .i64 z2, .int .i64 x3, .int .i64 y3, .int .i64 z3] #[.int .i64 (x0 + a), .int .i64 (y0 + b), .int .i64 (z0 + c), .int .i64 (x1 + a), .int .i64 (y1 + b), .int .i64 (z1 + c), .int .i64 (x2 + a), .int .i64 (y2 + b), .int .i64 (z2 + c), .int .i64 x3, .int .i64 y3, .int .i64 z3] #[.int .i64 (x0 + a), .int .i64 (y0 + b), .int .i64 (z0 + c), .int .i64 (x1 + a), .int .i64 (y1 + b), .int .i64 (z1 + c), .int .i64 (x2 + a), .int .i64 (y2 + b), .int .i64 (z2 + c), .int .i64 (x3 + a), .int .i64 (y3 + b), .int .i64 (z3 + c)] #[.int .i64 x0, .int .i64 y0, .int .i64 z0, .int .i64 x1, .int .i64 y1, .int .i64 z1, .int .i64 x2, .int .i64 y2, .int .i64 z2, .int .i64 x3, .int .i64 y3, .int .i64 z3] #[.int .i64 (-x0), .int .i64 (-y0), .int .i64 (-z0), .int .i64 x1, .int .i64 y1, .int .i64 z1, .int .i64 x2, .int .i64 y2, .int .i64 z2, .int .i64 x3, .int .i64 y3, .int .i64 z3] #[.int .i64 (-x0), .int .i64 (-y0), .int .i64 (-z0), .int .i64 (-x1), .int .i64 (-y1), .int .i64 (-z1), .int .i64 x2, .int .i64 y2, .int .i64 z2, .int .i64 x3, .int .i64 y3, .int .i64 z3] #[.int .i64 (-x0), .int .i64 (-y0), .int .i64 (-z0), .int .i64 (-x1), .int .i64 (-y1), .int .i64 (-z1), .int .i64 (-x2), .int .i64 (-y2), .int .i64 (-z2), .int .i64 x3, .int .i64 y3, .int .i64 z3] #[.int .i64 (-x0), .int .i64 (-y0), .int .i64 (-z0), .int .i64 (-x1), .int .i64 (-y1), .int .i64 (-z1), .int .i64 (-x2), .int .i64 (-y2), .int .i64 (-z2), .int .i64 (-x3), .int .i64 (-y3), .int .i64 (-z3)] w k i wr)
  case atStart => exact ⟨.inl ⟨rfl, rfl, by omega, fun o => by simp, fun o => by simp⟩, p3, c3, fun o => by simp, fun o => by simp, by (repeat' (first | (with_reducible exact Below.refl _ _) | (with_reducible refine bstep (by with_reducible assumption) ?_) | (with_reducible refine Below.alloc ?_ ?_ _) | (with_reducible refine Below.drew ?_) | (with_reducible refine below_drewN ?_ _) | (with_reducible refine Below.setCell ?_ ?_ _) | go_size))⟩
  case round =>
    clear p3 c3
    obtain ⟨hk, hp, hc, f0, f1, hB⟩ := hrel
    have HB := Lib.hid hB
    clear hB
    rcases hk with ⟨rfl, rfl, hg, hq, hm⟩ | ⟨rfl, rfl, hg, hq, hm⟩ | ⟨rfl, rfl, hg, hq, hm⟩ | ⟨rfl, rfl, hg, hq, hm⟩ | ⟨rfl, rfl, hg, hq, hm⟩
    · have ne0 : w2.heap.size ≠ w.heap.size := by omega
      have ne1 : w2.heap.size ≠ w.heap.size + 1 := by omega
      have ne2 : w2.heap.size + 1 ≠ w.heap.size := by omega
      have ne3 : w2.heap.size + 1 ≠ w.heap.size + 1 := by omega
      have ne4 : w2.heap.size + 1 ≠ w2.heap.size := by omega
      have ne5 : w2.heap.size ≠ w2.heap.size + 1 := by omega
      go_wp2_with (go_at_call 17; ((with_reducible refine (W0.out _).mono ?_); rintro e w3 ⟨rfl, hb3⟩))
      have hp3 := blk_later (by simp) hb3 hp
      have hc3 := blk_later (by simp) hb3 hc
      have hq3 := blk_later (by simp) hb3 hq
      have hm3 := blk_later (by simp) hb3 hm
      have f03 := fro_later (blk_lt (by simp) hq) hb3 f0
      have f13 := fro_later (blk_lt (by simp) hm) hb3 f1
      have hs3 : w2.heap.size + 1 < w3.heap.size := blk_lt (by simp) hm3
      have hs2 : w2.heap.size < w3.heap.size := by omega
      have hs4 : w2.heap.size + 1 < w3.drew.heap.size := hs3
      clear hp hc hq hm f0 f1
      go_region_with (first | (go_at_call 18; ((with_reducible refine (A0.out _).mono ?_); rintro e w5 ⟨rfl, hb5⟩; have hp5 := blk_later (by simp) hb5 (blk_drew hp3); have hc5 := blk_later (by simp) hb5 (blk_drew hc3); have hq5 := blk_later (by simp) hb5 (blk_drew hq3); have hm5 := blk_later (by simp) hb5 (blk_drew hm3); have f05 := fro_later (W := w3.drew) hs2 hb5 f03; have f15 := fro_later (W := w3.drew) hs3 hb5 f13)))
      all_goals
        have hp6 := blk_far3 ne0 hp5 (i := 0) (j := 1) (k := 2) (u := .int .i64 (x0 + a)) (v := .int .i64 (y0 + b)) (x := .int .i64 (z0 + c))
        have hc6 := blk_far3 ne1 hc5 (i := 0) (j := 1) (k := 2) (u := .int .i64 (x0 + a)) (v := .int .i64 (y0 + b)) (x := .int .i64 (z0 + c))
        have hm6 := blk_far3 ne5 hm5 (i := 0) (j := 1) (k := 2) (u := .int .i64 (x0 + a)) (v := .int .i64 (y0 + b)) (x := .int .i64 (z0 + c))
        have hq6 := blk_set3 (cs' := #[.int .i64 (x0 + a), .int .i64 (y0 + b), .int .i64 (z0 + c), .int .i64 x1, .int .i64 y1, .int .i64 z1, .int .i64 x2, .int .i64 y2, .int .i64 z2, .int .i64 x3, .int .i64 y3, .int .i64 z3]) hq5 (i := 0) (j := 1) (k := 2) (u := .int .i64 (x0 + a)) (v := .int .i64 (y0 + b)) (x := .int .i64 (z0 + c)) (by simp) (by simp) (by simp) rfl
        clear hp3 hc3 hq3 hm3 f03 f13 hp5 hc5 hq5 hm5
        go_wp2_with (go_at_call 19; ((with_reducible refine (N0.out _).mono ?_); rintro e w7 ⟨rfl, hb7⟩; have hp7 := blk_later (by simp) hb7 hp6; have hc7 := blk_later (by simp) hb7 hc6; have hq7 := blk_later (by simp) hb7 hq6; have hm7 := blk_later (by simp) hb7 hm6; have f07 : ∀ o, w7.frozen? ⟨w2.heap.size, o, none⟩ = false := fro_later (blk_lt (by simp) hq6) hb7 (fun o => by simp [f05]); have f17 : ∀ o, w7.frozen? ⟨w2.heap.size + 1, o, none⟩ = false := fro_later (blk_lt (by simp) hm6) hb7 (fun o => by simp [f15]); clear hp6 hc6 hq6 hm6 f05 f15))
        go_roundg 3
        case measure => omega
        case rel =>
          have HB' := HB.out
          exact ⟨.inr (.inl ⟨rfl, by simp, by omega, blk_far3 ne4 hq7, blk_set3 hm7 (by simp) (by simp) (by simp) rfl⟩), blk_far3 ne2 hp7, blk_far3 ne3 hc7, fun o => by simp [f07], fun o => by simp [f17], by (repeat' (first | (with_reducible exact Below.refl _ _) | (with_reducible refine bstep (by with_reducible assumption) ?_) | (with_reducible refine Below.alloc ?_ ?_ _) | (with_reducible refine Below.drew ?_) | (with_reducible refine below_drewN ?_ _) | (with_reducible refine Below.setCell ?_ ?_ _) | go_size))⟩
    · have ne0 : w2.heap.size ≠ w.heap.size := by omega
      have ne1 : w2.heap.size ≠ w.heap.size + 1 := by omega
      have ne2 : w2.heap.size + 1 ≠ w.heap.size := by omega
      have ne3 : w2.heap.size + 1 ≠ w.heap.size + 1 := by omega
      have ne4 : w2.heap.size + 1 ≠ w2.heap.size := by omega
      have ne5 : w2.heap.size ≠ w2.heap.size + 1 := by omega
      go_wp2_with (go_at_call 17; ((with_reducible refine (W1.out _).mono ?_); rintro e w3 ⟨rfl, hb3⟩))
      have hp3 := blk_later (by simp) hb3 hp
      have hc3 := blk_later (by simp) hb3 hc
      have hq3 := blk_later (by simp) hb3 hq
      have hm3 := blk_later (by simp) hb3 hm
      have f03 := fro_later (blk_lt (by simp) hq) hb3 f0
      have f13 := fro_later (blk_lt (by simp) hm) hb3 f1
      have hs3 : w2.heap.size + 1 < w3.heap.size := blk_lt (by simp) hm3
      have hs2 : w2.heap.size < w3.heap.size := by omega
      have hs4 : w2.heap.size + 1 < w3.drew.heap.size := hs3
      clear hp hc hq hm f0 f1
      go_region_with (first | (go_at_call 18; ((with_reducible refine (A1.out _).mono ?_); rintro e w5 ⟨rfl, hb5⟩; have hp5 := blk_later (by simp) hb5 (blk_drew hp3); have hc5 := blk_later (by simp) hb5 (blk_drew hc3); have hq5 := blk_later (by simp) hb5 (blk_drew hq3); have hm5 := blk_later (by simp) hb5 (blk_drew hm3); have f05 := fro_later (W := w3.drew) hs2 hb5 f03; have f15 := fro_later (W := w3.drew) hs3 hb5 f13)))
      all_goals
        have hp6 := blk_far3 ne0 hp5 (i := 3) (j := 4) (k := 5) (u := .int .i64 (x1 + a)) (v := .int .i64 (y1 + b)) (x := .int .i64 (z1 + c))
        have hc6 := blk_far3 ne1 hc5 (i := 3) (j := 4) (k := 5) (u := .int .i64 (x1 + a)) (v := .int .i64 (y1 + b)) (x := .int .i64 (z1 + c))
        have hm6 := blk_far3 ne5 hm5 (i := 3) (j := 4) (k := 5) (u := .int .i64 (x1 + a)) (v := .int .i64 (y1 + b)) (x := .int .i64 (z1 + c))
        have hq6 := blk_set3 (cs' := #[.int .i64 (x0 + a), .int .i64 (y0 + b), .int .i64 (z0 + c), .int .i64 (x1 + a), .int .i64 (y1 + b), .int .i64 (z1 + c), .int .i64 x2, .int .i64 y2, .int .i64 z2, .int .i64 x3, .int .i64 y3, .int .i64 z3]) hq5 (i := 3) (j := 4) (k := 5) (u := .int .i64 (x1 + a)) (v := .int .i64 (y1 + b)) (x := .int .i64 (z1 + c)) (by simp) (by simp) (by simp) rfl
        clear hp3 hc3 hq3 hm3 f03 f13 hp5 hc5 hq5 hm5
        go_wp2_with (go_at_call 19; ((with_reducible refine (N1.out _).mono ?_); rintro e w7 ⟨rfl, hb7⟩; have hp7 := blk_later (by simp) hb7 hp6; have hc7 := blk_later (by simp) hb7 hc6; have hq7 := blk_later (by simp) hb7 hq6; have hm7 := blk_later (by simp) hb7 hm6; have f07 : ∀ o, w7.frozen? ⟨w2.heap.size, o, none⟩ = false := fro_later (blk_lt (by simp) hq6) hb7 (fun o => by simp [f05]); have f17 : ∀ o, w7.frozen? ⟨w2.heap.size + 1, o, none⟩ = false := fro_later (blk_lt (by simp) hm6) hb7 (fun o => by simp [f15]); clear hp6 hc6 hq6 hm6 f05 f15))
        go_roundg 2
        case measure => omega
        case rel =>
          have HB' := HB.out
          exact ⟨.inr (.inr (.inl ⟨rfl, by simp, by omega, blk_far3 ne4 hq7, blk_set3 hm7 (by simp) (by simp) (by simp) rfl⟩)), blk_far3 ne2 hp7, blk_far3 ne3 hc7, fun o => by simp [f07], fun o => by simp [f17], by (repeat' (first | (with_reducible exact Below.refl _ _) | (with_reducible refine bstep (by with_reducible assumption) ?_) | (with_reducible refine Below.alloc ?_ ?_ _) | (with_reducible refine Below.drew ?_) | (with_reducible refine below_drewN ?_ _) | (with_reducible refine Below.setCell ?_ ?_ _) | go_size))⟩
    · go_wp2_with (go_at_call 17; ((with_reducible refine (W2.out _).mono ?_); rintro e w3 ⟨rfl, hb3⟩))
      have HB' := HB.out
      go_returns
      exact ⟨by simp, by (repeat' (first | (with_reducible exact Below.refl _ _) | (with_reducible refine bstep (by with_reducible assumption) ?_) | (with_reducible refine Below.alloc ?_ ?_ _) | (with_reducible refine Below.drew ?_) | (with_reducible refine below_drewN ?_ _) | (with_reducible refine Below.setCell ?_ ?_ _) | go_size))⟩
    · exact absurd hg (by omega)
    · exact absurd hg (by omega)
set_option maxHeartbeats 4000000 in
theorem moved_3 (x0 y0 z0 x1 y1 z1 x2 y2 z2 x3 y3 z3 a b c : Int) (hby : inB a b c 16384 = true) (h0 : inB x0 y0 z0 32768 = true) (h1 : inB x1 y1 z1 32768 = true) (h2 : inB x2 y2 z2 32768 = true) (h3 : inB x3 y3 z3 32768 = false) (w : World) :
    Calls Try.prog 4 #[.agg (C12 x0 y0 z0 x1 y1 z1 x2 y2 z2 x3 y3 z3), V3 a b c] w fun e w' => e = .returned (.bool true) ∧ Below w.heap.size w w' := by
  have WB : Hid (∀ w, Calls Try.prog 17 #[V3 a b c, .int .i64 16384] w fun e w' => e = .returned (.bool true) ∧ Below w.heap.size w w') := by
    intro w; have := within_any a b c 16384 w; rw [hby] at this; exact this
  have W0 : Hid (∀ w, Calls Try.prog 17 #[V3 x0 y0 z0, .int .i64 32768] w fun e w' => e = .returned (.bool true) ∧ Below w.heap.size w w') := by
    intro w; have := within_any x0 y0 z0 32768 w; rw [h0] at this; exact this
  have W1 : Hid (∀ w, Calls Try.prog 17 #[V3 x1 y1 z1, .int .i64 32768] w fun e w' => e = .returned (.bool true) ∧ Below w.heap.size w w') := by
    intro w; have := within_any x1 y1 z1 32768 w; rw [h1] at this; exact this
  have W2 : Hid (∀ w, Calls Try.prog 17 #[V3 x2 y2 z2, .int .i64 32768] w fun e w' => e = .returned (.bool true) ∧ Below w.heap.size w w') := by
    intro w; have := within_any x2 y2 z2 32768 w; rw [h2] at this; exact this
  have W3 : Hid (∀ w, Calls Try.prog 17 #[V3 x3 y3 z3, .int .i64 32768] w fun e w' => e = .returned (.bool false) ∧ Below w.heap.size w w') := by
    intro w; have := within_any x3 y3 z3 32768 w; rw [h3] at this; exact this
  rw [inB_iff (by omega) (by omega)] at hby
  rw [inB_iff (by omega) (by omega)] at h0
  rw [inB_iff (by omega) (by omega)] at h1
  rw [inB_iff (by omega) (by omega)] at h2
  have A0 := Lib.hid (add_in x0 y0 z0 a b c (by omega) (by omega) (by omega))
  have N0 := Lib.hid (neg_in x0 y0 z0 (by omega) (by omega) (by omega))
  have A1 := Lib.hid (add_in x1 y1 z1 a b c (by omega) (by omega) (by omega))
  have N1 := Lib.hid (neg_in x1 y1 z1 (by omega) (by omega) (by omega))
  have A2 := Lib.hid (add_in x2 y2 z2 a b c (by omega) (by omega) (by omega))
  have N2 := Lib.hid (neg_in x2 y2 z2 (by omega) (by omega) (by omega))
  clear hby h0 h1 h2 h3
  go_enter Try.func4, Try.ntmps4
  go_wp2_with (first | (go_at_call 14; ((with_reducible refine (alive12_any _).mono ?_); rintro e w1 ⟨rfl, hb1⟩; have p1 := blk_later (cs := (C12 x0 y0 z0 x1 y1 z1 x2 y2 z2 x3 y3 z3)) (by simp) hb1 (blk_alloc (by simp) _ (fun o => by rw [World.cell?_alloc_new])); have c1 : ∀ o, w1.cell? ⟨w.heap.size + 1, o, none⟩ = (#[.int .i64 a, .int .i64 b, .int .i64 c] : Array Value)[o]? := blk_later (by simp) hb1 (fun o => by simp))) | (go_at_call 17; ((with_reducible refine (WB.out _).mono ?_); rintro e w2 ⟨rfl, hb2⟩; have p2 := blk_later (by simp) hb2 p1; have c2 := blk_later (by simp) hb2 c1; have hs0 : w.heap.size < w2.heap.size := blk_lt (by simp) p2; have hs1 : w.heap.size + 1 < w2.heap.size := blk_lt (by simp) c2; clear p1 c1)))
  have p3 := blk_alloc (by simp) (.cells (C12 x0 y0 z0 x1 y1 z1 x2 y2 z2 x3 y3 z3) 24) (blk_alloc (by simp) (.cells (C12 x0 y0 z0 x1 y1 z1 x2 y2 z2 x3 y3 z3) 24) p2)
  have c3 := blk_alloc (by simp) (.cells (C12 x0 y0 z0 x1 y1 z1 x2 y2 z2 x3 y3 z3) 24) (blk_alloc (by simp) (.cells (C12 x0 y0 z0 x1 y1 z1 x2 y2 z2 x3 y3 z3) 24) c2)
  clear p2 c2
  go_loopg [7] 4 (fun k i wr => MovRel 3 w.heap.size w2.heap.size (w2.heap.size + 1) (C12 x0 y0 z0 x1 y1 z1 x2 y2 z2 x3 y3 z3) #[.int .i64 a, .int .i64 b, .int .i64 c] #[.int .i64 x0, .int .i64 y0, .int .i64 z0, .int .i64 x1, .int .i64 y1, .int .i64 z1, .int .i64 x2, .int .i64 y2, .int .i64 z2, .int .i64 x3, .int .i64 y3, .int .i64 z3] #[.int .i64 (x0 + a), .int .i64 (y0 + b), .int .i64 (z0 + c), .int .i64 x1, .int .i64 y1, .int .i64 z1, .int .i64 x2, .int .i64 y2, .int .i64 z2, .int .i64 x3, .int .i64 y3, .int .i64 z3] #[.int .i64 (x0 + a), .int .i64 (y0 + b), .int .i64 (z0 + c), .int .i64 (x1 + a), .int .i64 (y1 + b), .int .i64 (z1 + c), .int .i64 x2, .int .i64 y2, .int .i64 z2, .int .i64 x3, .int .i64 y3, .int .i64 z3] #[.int .i64 (x0 + a), .int .i64 (y0 + b), .int .i64 (z0 + c), .int .i64 (x1 + a), .int .i64 (y1 + b), .int .i64 (z1 + c), .int .i64 (x2 + a), .int .i64 (y2 + b), .int .i64 (z2 + c), .int .i64 x3, .int .i64 y3, .int .i64 z3] #[.int .i64 (x0 + a), .int .i64 (y0 + b), .int .i64 (z0 + c), .int .i64 (x1 + a), .int .i64 (y1 + b), .int .i64 (z1 + c), .int .i64 (x2 + a), .int .i64 (y2 + b), .int .i64 (z2 + c), .int .i64 (x3 + a), .int .i64 (y3 + b), .int .i64 (z3 + c)] #[.int .i64 x0, .int .i64 y0, .int .i64 z0, .int .i64 x1, .int .i64 y1, .int .i64 z1, .int .i64 x2, .int .i64 y2, .int .i64 z2, .int .i64 x3, .int .i64 y3, .int .i64 z3] #[.int .i64 (-x0), .int .i64 (-y0), .int .i64 (-z0), .int .i64 x1, .int .i64 y1, .int .i64 z1, .int .i64 x2, .int .i64 y2, .int .i64 z2, .int .i64 x3, .int .i64 y3, .int .i64 z3] #[.int .i64 (-x0), .int .i64 (-y0), .int .i64 (-z0), .int .i64 (-x1), .int .i64 (-y1), .int .i64 (-z1), .int .i64 x2, .int .i64 y2, .int .i64 z2, .int .i64 x3, .int .i64 y3, .int .i64 z3] #[.int .i64 (-x0), .int .i64 (-y0), .int .i64 (-z0), .int .i64 (-x1), .int .i64 (-y1), .int .i64 (-z1), .int .i64 (-x2), .int .i64 (-y2), .int .i64 (-z2), .int .i64 x3, .int .i64 y3, .int .i64 z3] #[.int .i64 (-x0), .int .i64 (-y0), .int .i64 (-z0), .int .i64 (-x1), .int .i64 (-y1), .int .i64 (-z1), .int .i64 (-x2), .int .i64 (-y2), .int .i64 (-z2), .int .i64 (-x3), .int .i64 (-y3), .int .i64 (-z3)] w k i wr)
  case atStart => exact ⟨.inl ⟨rfl, rfl, by omega, fun o => by simp, fun o => by simp⟩, p3, c3, fun o => by simp, fun o => by simp, by (repeat' (first | (with_reducible exact Below.refl _ _) | (with_reducible refine bstep (by with_reducible assumption) ?_) | (with_reducible refine Below.alloc ?_ ?_ _) | (with_reducible refine Below.drew ?_) | (with_reducible refine below_drewN ?_ _) | (with_reducible refine Below.setCell ?_ ?_ _) | go_size))⟩
  case round =>
    clear p3 c3
    obtain ⟨hk, hp, hc, f0, f1, hB⟩ := hrel
    have HB := Lib.hid hB
    clear hB
    rcases hk with ⟨rfl, rfl, hg, hq, hm⟩ | ⟨rfl, rfl, hg, hq, hm⟩ | ⟨rfl, rfl, hg, hq, hm⟩ | ⟨rfl, rfl, hg, hq, hm⟩ | ⟨rfl, rfl, hg, hq, hm⟩
    · have ne0 : w2.heap.size ≠ w.heap.size := by omega
      have ne1 : w2.heap.size ≠ w.heap.size + 1 := by omega
      have ne2 : w2.heap.size + 1 ≠ w.heap.size := by omega
      have ne3 : w2.heap.size + 1 ≠ w.heap.size + 1 := by omega
      have ne4 : w2.heap.size + 1 ≠ w2.heap.size := by omega
      have ne5 : w2.heap.size ≠ w2.heap.size + 1 := by omega
      go_wp2_with (go_at_call 17; ((with_reducible refine (W0.out _).mono ?_); rintro e w3 ⟨rfl, hb3⟩))
      have hp3 := blk_later (by simp) hb3 hp
      have hc3 := blk_later (by simp) hb3 hc
      have hq3 := blk_later (by simp) hb3 hq
      have hm3 := blk_later (by simp) hb3 hm
      have f03 := fro_later (blk_lt (by simp) hq) hb3 f0
      have f13 := fro_later (blk_lt (by simp) hm) hb3 f1
      have hs3 : w2.heap.size + 1 < w3.heap.size := blk_lt (by simp) hm3
      have hs2 : w2.heap.size < w3.heap.size := by omega
      have hs4 : w2.heap.size + 1 < w3.drew.heap.size := hs3
      clear hp hc hq hm f0 f1
      go_region_with (first | (go_at_call 18; ((with_reducible refine (A0.out _).mono ?_); rintro e w5 ⟨rfl, hb5⟩; have hp5 := blk_later (by simp) hb5 (blk_drew hp3); have hc5 := blk_later (by simp) hb5 (blk_drew hc3); have hq5 := blk_later (by simp) hb5 (blk_drew hq3); have hm5 := blk_later (by simp) hb5 (blk_drew hm3); have f05 := fro_later (W := w3.drew) hs2 hb5 f03; have f15 := fro_later (W := w3.drew) hs3 hb5 f13)))
      all_goals
        have hp6 := blk_far3 ne0 hp5 (i := 0) (j := 1) (k := 2) (u := .int .i64 (x0 + a)) (v := .int .i64 (y0 + b)) (x := .int .i64 (z0 + c))
        have hc6 := blk_far3 ne1 hc5 (i := 0) (j := 1) (k := 2) (u := .int .i64 (x0 + a)) (v := .int .i64 (y0 + b)) (x := .int .i64 (z0 + c))
        have hm6 := blk_far3 ne5 hm5 (i := 0) (j := 1) (k := 2) (u := .int .i64 (x0 + a)) (v := .int .i64 (y0 + b)) (x := .int .i64 (z0 + c))
        have hq6 := blk_set3 (cs' := #[.int .i64 (x0 + a), .int .i64 (y0 + b), .int .i64 (z0 + c), .int .i64 x1, .int .i64 y1, .int .i64 z1, .int .i64 x2, .int .i64 y2, .int .i64 z2, .int .i64 x3, .int .i64 y3, .int .i64 z3]) hq5 (i := 0) (j := 1) (k := 2) (u := .int .i64 (x0 + a)) (v := .int .i64 (y0 + b)) (x := .int .i64 (z0 + c)) (by simp) (by simp) (by simp) rfl
        clear hp3 hc3 hq3 hm3 f03 f13 hp5 hc5 hq5 hm5
        go_wp2_with (go_at_call 19; ((with_reducible refine (N0.out _).mono ?_); rintro e w7 ⟨rfl, hb7⟩; have hp7 := blk_later (by simp) hb7 hp6; have hc7 := blk_later (by simp) hb7 hc6; have hq7 := blk_later (by simp) hb7 hq6; have hm7 := blk_later (by simp) hb7 hm6; have f07 : ∀ o, w7.frozen? ⟨w2.heap.size, o, none⟩ = false := fro_later (blk_lt (by simp) hq6) hb7 (fun o => by simp [f05]); have f17 : ∀ o, w7.frozen? ⟨w2.heap.size + 1, o, none⟩ = false := fro_later (blk_lt (by simp) hm6) hb7 (fun o => by simp [f15]); clear hp6 hc6 hq6 hm6 f05 f15))
        go_roundg 3
        case measure => omega
        case rel =>
          have HB' := HB.out
          exact ⟨.inr (.inl ⟨rfl, by simp, by omega, blk_far3 ne4 hq7, blk_set3 hm7 (by simp) (by simp) (by simp) rfl⟩), blk_far3 ne2 hp7, blk_far3 ne3 hc7, fun o => by simp [f07], fun o => by simp [f17], by (repeat' (first | (with_reducible exact Below.refl _ _) | (with_reducible refine bstep (by with_reducible assumption) ?_) | (with_reducible refine Below.alloc ?_ ?_ _) | (with_reducible refine Below.drew ?_) | (with_reducible refine below_drewN ?_ _) | (with_reducible refine Below.setCell ?_ ?_ _) | go_size))⟩
    · have ne0 : w2.heap.size ≠ w.heap.size := by omega
      have ne1 : w2.heap.size ≠ w.heap.size + 1 := by omega
      have ne2 : w2.heap.size + 1 ≠ w.heap.size := by omega
      have ne3 : w2.heap.size + 1 ≠ w.heap.size + 1 := by omega
      have ne4 : w2.heap.size + 1 ≠ w2.heap.size := by omega
      have ne5 : w2.heap.size ≠ w2.heap.size + 1 := by omega
      go_wp2_with (go_at_call 17; ((with_reducible refine (W1.out _).mono ?_); rintro e w3 ⟨rfl, hb3⟩))
      have hp3 := blk_later (by simp) hb3 hp
      have hc3 := blk_later (by simp) hb3 hc
      have hq3 := blk_later (by simp) hb3 hq
      have hm3 := blk_later (by simp) hb3 hm
      have f03 := fro_later (blk_lt (by simp) hq) hb3 f0
      have f13 := fro_later (blk_lt (by simp) hm) hb3 f1
      have hs3 : w2.heap.size + 1 < w3.heap.size := blk_lt (by simp) hm3
      have hs2 : w2.heap.size < w3.heap.size := by omega
      have hs4 : w2.heap.size + 1 < w3.drew.heap.size := hs3
      clear hp hc hq hm f0 f1
      go_region_with (first | (go_at_call 18; ((with_reducible refine (A1.out _).mono ?_); rintro e w5 ⟨rfl, hb5⟩; have hp5 := blk_later (by simp) hb5 (blk_drew hp3); have hc5 := blk_later (by simp) hb5 (blk_drew hc3); have hq5 := blk_later (by simp) hb5 (blk_drew hq3); have hm5 := blk_later (by simp) hb5 (blk_drew hm3); have f05 := fro_later (W := w3.drew) hs2 hb5 f03; have f15 := fro_later (W := w3.drew) hs3 hb5 f13)))
      all_goals
        have hp6 := blk_far3 ne0 hp5 (i := 3) (j := 4) (k := 5) (u := .int .i64 (x1 + a)) (v := .int .i64 (y1 + b)) (x := .int .i64 (z1 + c))
        have hc6 := blk_far3 ne1 hc5 (i := 3) (j := 4) (k := 5) (u := .int .i64 (x1 + a)) (v := .int .i64 (y1 + b)) (x := .int .i64 (z1 + c))
        have hm6 := blk_far3 ne5 hm5 (i := 3) (j := 4) (k := 5) (u := .int .i64 (x1 + a)) (v := .int .i64 (y1 + b)) (x := .int .i64 (z1 + c))
        have hq6 := blk_set3 (cs' := #[.int .i64 (x0 + a), .int .i64 (y0 + b), .int .i64 (z0 + c), .int .i64 (x1 + a), .int .i64 (y1 + b), .int .i64 (z1 + c), .int .i64 x2, .int .i64 y2, .int .i64 z2, .int .i64 x3, .int .i64 y3, .int .i64 z3]) hq5 (i := 3) (j := 4) (k := 5) (u := .int .i64 (x1 + a)) (v := .int .i64 (y1 + b)) (x := .int .i64 (z1 + c)) (by simp) (by simp) (by simp) rfl
        clear hp3 hc3 hq3 hm3 f03 f13 hp5 hc5 hq5 hm5
        go_wp2_with (go_at_call 19; ((with_reducible refine (N1.out _).mono ?_); rintro e w7 ⟨rfl, hb7⟩; have hp7 := blk_later (by simp) hb7 hp6; have hc7 := blk_later (by simp) hb7 hc6; have hq7 := blk_later (by simp) hb7 hq6; have hm7 := blk_later (by simp) hb7 hm6; have f07 : ∀ o, w7.frozen? ⟨w2.heap.size, o, none⟩ = false := fro_later (blk_lt (by simp) hq6) hb7 (fun o => by simp [f05]); have f17 : ∀ o, w7.frozen? ⟨w2.heap.size + 1, o, none⟩ = false := fro_later (blk_lt (by simp) hm6) hb7 (fun o => by simp [f15]); clear hp6 hc6 hq6 hm6 f05 f15))
        go_roundg 2
        case measure => omega
        case rel =>
          have HB' := HB.out
          exact ⟨.inr (.inr (.inl ⟨rfl, by simp, by omega, blk_far3 ne4 hq7, blk_set3 hm7 (by simp) (by simp) (by simp) rfl⟩)), blk_far3 ne2 hp7, blk_far3 ne3 hc7, fun o => by simp [f07], fun o => by simp [f17], by (repeat' (first | (with_reducible exact Below.refl _ _) | (with_reducible refine bstep (by with_reducible assumption) ?_) | (with_reducible refine Below.alloc ?_ ?_ _) | (with_reducible refine Below.drew ?_) | (with_reducible refine below_drewN ?_ _) | (with_reducible refine Below.setCell ?_ ?_ _) | go_size))⟩
    · have ne0 : w2.heap.size ≠ w.heap.size := by omega
      have ne1 : w2.heap.size ≠ w.heap.size + 1 := by omega
      have ne2 : w2.heap.size + 1 ≠ w.heap.size := by omega
      have ne3 : w2.heap.size + 1 ≠ w.heap.size + 1 := by omega
      have ne4 : w2.heap.size + 1 ≠ w2.heap.size := by omega
      have ne5 : w2.heap.size ≠ w2.heap.size + 1 := by omega
      go_wp2_with (go_at_call 17; ((with_reducible refine (W2.out _).mono ?_); rintro e w3 ⟨rfl, hb3⟩))
      have hp3 := blk_later (by simp) hb3 hp
      have hc3 := blk_later (by simp) hb3 hc
      have hq3 := blk_later (by simp) hb3 hq
      have hm3 := blk_later (by simp) hb3 hm
      have f03 := fro_later (blk_lt (by simp) hq) hb3 f0
      have f13 := fro_later (blk_lt (by simp) hm) hb3 f1
      have hs3 : w2.heap.size + 1 < w3.heap.size := blk_lt (by simp) hm3
      have hs2 : w2.heap.size < w3.heap.size := by omega
      have hs4 : w2.heap.size + 1 < w3.drew.heap.size := hs3
      clear hp hc hq hm f0 f1
      go_region_with (first | (go_at_call 18; ((with_reducible refine (A2.out _).mono ?_); rintro e w5 ⟨rfl, hb5⟩; have hp5 := blk_later (by simp) hb5 (blk_drew hp3); have hc5 := blk_later (by simp) hb5 (blk_drew hc3); have hq5 := blk_later (by simp) hb5 (blk_drew hq3); have hm5 := blk_later (by simp) hb5 (blk_drew hm3); have f05 := fro_later (W := w3.drew) hs2 hb5 f03; have f15 := fro_later (W := w3.drew) hs3 hb5 f13)))
      all_goals
        have hp6 := blk_far3 ne0 hp5 (i := 6) (j := 7) (k := 8) (u := .int .i64 (x2 + a)) (v := .int .i64 (y2 + b)) (x := .int .i64 (z2 + c))
        have hc6 := blk_far3 ne1 hc5 (i := 6) (j := 7) (k := 8) (u := .int .i64 (x2 + a)) (v := .int .i64 (y2 + b)) (x := .int .i64 (z2 + c))
        have hm6 := blk_far3 ne5 hm5 (i := 6) (j := 7) (k := 8) (u := .int .i64 (x2 + a)) (v := .int .i64 (y2 + b)) (x := .int .i64 (z2 + c))
        have hq6 := blk_set3 (cs' := #[.int .i64 (x0 + a), .int .i64 (y0 + b), .int .i64 (z0 + c), .int .i64 (x1 + a), .int .i64 (y1 + b), .int .i64 (z1 + c), .int .i64 (x2 + a), .int .i64 (y2 + b), .int .i64 (z2 + c), .int .i64 x3, .int .i64 y3, .int .i64 z3]) hq5 (i := 6) (j := 7) (k := 8) (u := .int .i64 (x2 + a)) (v := .int .i64 (y2 + b)) (x := .int .i64 (z2 + c)) (by simp) (by simp) (by simp) rfl
        clear hp3 hc3 hq3 hm3 f03 f13 hp5 hc5 hq5 hm5
        go_wp2_with (go_at_call 19; ((with_reducible refine (N2.out _).mono ?_); rintro e w7 ⟨rfl, hb7⟩; have hp7 := blk_later (by simp) hb7 hp6; have hc7 := blk_later (by simp) hb7 hc6; have hq7 := blk_later (by simp) hb7 hq6; have hm7 := blk_later (by simp) hb7 hm6; have f07 : ∀ o, w7.frozen? ⟨w2.heap.size, o, none⟩ = false := fro_later (blk_lt (by simp) hq6) hb7 (fun o => by simp [f05]); have f17 : ∀ o, w7.frozen? ⟨w2.heap.size + 1, o, none⟩ = false := fro_later (blk_lt (by simp) hm6) hb7 (fun o => by simp [f15]); clear hp6 hc6 hq6 hm6 f05 f15))
        go_roundg 1
        case measure => omega
        case rel =>
          have HB' := HB.out
          exact ⟨.inr (.inr (.inr (.inl ⟨rfl, by simp, by omega, blk_far3 ne4 hq7, blk_set3 hm7 (by simp) (by simp) (by simp) rfl⟩))), blk_far3 ne2 hp7, blk_far3 ne3 hc7, fun o => by simp [f07], fun o => by simp [f17], by (repeat' (first | (with_reducible exact Below.refl _ _) | (with_reducible refine bstep (by with_reducible assumption) ?_) | (with_reducible refine Below.alloc ?_ ?_ _) | (with_reducible refine Below.drew ?_) | (with_reducible refine below_drewN ?_ _) | (with_reducible refine Below.setCell ?_ ?_ _) | go_size))⟩
    · go_wp2_with (go_at_call 17; ((with_reducible refine (W3.out _).mono ?_); rintro e w3 ⟨rfl, hb3⟩))
      have HB' := HB.out
      go_returns
      exact ⟨by simp, by (repeat' (first | (with_reducible exact Below.refl _ _) | (with_reducible refine bstep (by with_reducible assumption) ?_) | (with_reducible refine Below.alloc ?_ ?_ _) | (with_reducible refine Below.drew ?_) | (with_reducible refine below_drewN ?_ _) | (with_reducible refine Below.setCell ?_ ?_ _) | go_size))⟩
    · exact absurd hg (by omega)
theorem moved_far (x0 y0 z0 x1 y1 z1 x2 y2 z2 x3 y3 z3 a b c : Int) (hby : inB a b c 16384 = false) (w : World) :
    Calls Try.prog 4 #[.agg (C12 x0 y0 z0 x1 y1 z1 x2 y2 z2 x3 y3 z3), V3 a b c] w fun e w' => e = .returned (.bool true) ∧ Below w.heap.size w w' := by
  have WB : Hid (∀ w, Calls Try.prog 17 #[V3 a b c, .int .i64 16384] w fun e w' => e = .returned (.bool false) ∧ Below w.heap.size w w') := by
    intro w; have := within_any a b c 16384 w; rw [hby] at this; exact this
  clear hby
  go_enter Try.func4, Try.ntmps4
  go_wp2_with (first | (go_at_call 14; ((with_reducible refine (alive12_any _).mono ?_); rintro e w1 ⟨rfl, hb1⟩; have c1 : ∀ o, w1.cell? ⟨w.heap.size + 1, o, none⟩ = (#[.int .i64 a, .int .i64 b, .int .i64 c] : Array Value)[o]? := blk_later (by simp) hb1 (fun o => by simp))) | (go_at_call 17; ((with_reducible refine (WB.out _).mono ?_); rintro e w2 ⟨rfl, hb2⟩)))
  go_returns
  exact ⟨by simp, by (repeat' (first | (with_reducible exact Below.refl _ _) | (with_reducible refine bstep (by with_reducible assumption) ?_) | (with_reducible refine Below.alloc ?_ ?_ _) | (with_reducible refine Below.drew ?_) | (with_reducible refine below_drewN ?_ _) | (with_reducible refine Below.setCell ?_ ?_ _) | go_size))⟩
theorem rateMoved_walk (xs : List Int) (hl : xs.length = 12) (_ : ∀ x ∈ xs, I64 x) (a b c : Int) (_ : I64 a) (_ : I64 b) (_ : I64 c) (w : World) :
    Calls Try.prog 4 #[.agg (xs.map (Value.int .i64)).toArray, V3 a b c] w fun e w' => e = .returned (.bool true) ∧ Below w.heap.size w w' := by
  obtain ⟨x0, y0, z0, x1, y1, z1, x2, y2, z2, x3, y3, z3, rfl⟩ := list12 hl
  cases hby : inB a b c 16384
  · exact moved_far x0 y0 z0 x1 y1 z1 x2 y2 z2 x3 y3 z3 a b c hby w
  cases h0 : inB x0 y0 z0 32768
  · exact moved_0 x0 y0 z0 x1 y1 z1 x2 y2 z2 x3 y3 z3 a b c hby h0 w
  cases h1 : inB x1 y1 z1 32768
  · exact moved_1 x0 y0 z0 x1 y1 z1 x2 y2 z2 x3 y3 z3 a b c hby h0 h1 w
  cases h2 : inB x2 y2 z2 32768
  · exact moved_2 x0 y0 z0 x1 y1 z1 x2 y2 z2 x3 y3 z3 a b c hby h0 h1 h2 w
  cases h3 : inB x3 y3 z3 32768
  · exact moved_3 x0 y0 z0 x1 y1 z1 x2 y2 z2 x3 y3 z3 a b c hby h0 h1 h2 h3 w
  · exact moved_4 x0 y0 z0 x1 y1 z1 x2 y2 z2 x3 y3 z3 a b c hby h0 h1 h2 h3 w
end Go.Proofs.Ytbmemnbfdbpdkaa
