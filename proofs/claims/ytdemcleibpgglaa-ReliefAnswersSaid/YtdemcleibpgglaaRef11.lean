/- What relievoref11.there, Weights and Cubic answer, for all points and numbers of 64 bits. -/
import Derived.Test.YtdemcleibpgglaaRef09
import Derived.Test.YtdemcleibpgglaaRef00
import Derived.Test.YtdemcleibpgglaaCurve
import Derived.Test.YtdemcleibpgglaaBox
import Derived.Test.YtdemcleibpgglaaSet
namespace Go.Proofs.Ytdemcleibpgglaa
open Go.RowKit
set_option maxRecDepth 100000
set_option linter.unusedSimpArgs false
set_option linter.unusedVariables false
theorem rthere_any (i n : Int) (w : World) : Calls Try.prog 52 #[.int .i64 i, .int .i64 n] w fun e w' => e = .returned (.bool (there i n)) ∧ Below w.heap.size w w' := by
  unfold there
  obtain ⟨b0, h0⟩ : ∃ t, decide (1 ≤ n) = t := ⟨_, rfl⟩
  obtain ⟨b1, h1⟩ : ∃ t, decide (n ≤ 16) = t := ⟨_, rfl⟩
  obtain ⟨b2, h2⟩ : ∃ t, decide (0 ≤ i) = t := ⟨_, rfl⟩
  obtain ⟨b3, h3⟩ : ∃ t, decide (i ≤ n) = t := ⟨_, rfl⟩
  rw [h0, h1, h2, h3]
  cases b0
  · go_enter Try.func52, Try.ntmps52
    go_wp2_with fail
    go_returns
    exact ⟨by simp, by go_grown⟩
  cases b1
  · go_enter Try.func52, Try.ntmps52
    go_wp2_with fail
    go_returns
    exact ⟨by simp, by go_grown⟩
  cases b2
  · go_enter Try.func52, Try.ntmps52
    go_wp2_with fail
    go_returns
    exact ⟨by simp, by go_grown⟩
  cases b3
  · go_enter Try.func52, Try.ntmps52
    go_wp2_with fail
    go_returns
    exact ⟨by simp, by go_grown⟩
  · go_enter Try.func52, Try.ntmps52
    go_wp2_with fail
    go_returns
    exact ⟨by simp, by go_grown⟩
theorem rweights_any (i n : Int) (h : there i n = true) (w : World) :
    Calls Try.prog 53 #[.int .i64 i, .int .i64 n] w fun e w' => e = .returned (.agg (C4 (wt0 i n) (wt1 i n) (wt2 i n) (wt3 i n))) ∧ Below w.heap.size w w' := by
  rw [there_iff] at h
  obtain ⟨h1, h2, h3, h4⟩ := h
  unfold wt0 wt1 wt2 wt3
  have c1 : decide (n < 1) = false := decide_eq_false (by omega)
  have c2 : decide (16 < n) = false := decide_eq_false (by omega)
  have c3 : decide (i < 0) = false := decide_eq_false (by omega)
  have c4 : decide (n < i) = false := decide_eq_false (by omega)
  obtain ⟨k, hk⟩ : ∃ k, n - i = k := ⟨_, rfl⟩
  rw [hk]
  have k1 : 0 ≤ k := by omega
  have k2 : k ≤ 16 := by omega
  have i2 : i ≤ 16 := by omega
  have ⟨a1, a2⟩ := mul_le k1 k2 k1 k2
  have ⟨a3, a4⟩ := mul_le a1 a2 k1 k2
  have b1 : 0 ≤ 3 * k := by omega
  have b2 : 3 * k ≤ 48 := by omega
  have ⟨b3, b4⟩ := mul_le b1 b2 k1 k2
  have ⟨b5, b6⟩ := mul_le b3 b4 h3 i2
  have ⟨d1, d2⟩ := mul_le b1 b2 h3 i2
  have ⟨d3, d4⟩ := mul_le d1 d2 h3 i2
  have ⟨e1, e2⟩ := mul_le h3 i2 h3 i2
  have ⟨e3, e4⟩ := mul_le e1 e2 h3 i2
  go_enter Try.func53, Try.ntmps53
  go_wp2
  go_returns
  exact ⟨by simp, by (repeat' (first | (with_reducible exact Below.refl _ _) | (with_reducible refine bstep (by with_reducible assumption) ?_) | (with_reducible refine Below.alloc ?_ ?_ _) | (with_reducible refine Below.drew ?_) | (with_reducible refine below_drewN ?_ _) | (with_reducible refine Below.setCell ?_ ?_ _) | go_size))⟩
theorem rscale_b (x y z k p q r : Int) (e1 : x * k = p) (e2 : y * k = q) (e3 : z * k = r) (h1 : -1099511627776 ≤ p ∧ p ≤ 1099511627776) (h2 : -1099511627776 ≤ q ∧ q ≤ 1099511627776) (h3 : -1099511627776 ≤ r ∧ r ≤ 1099511627776) (w : World) :
    Calls Try.prog 24 #[V3 x y z, .int .i64 k] w fun e w' => e = .returned (V3 p q r) ∧ Below w.heap.size w w' := by
  subst e1 e2 e3
  have := rscale_any x y z k w
  rw [w64 (x := x * k) (by omega) (by omega), w64 (x := y * k) (by omega) (by omega), w64 (x := z * k) (by omega) (by omega)] at this
  exact this
theorem radd_b (x y z a b c : Int) (h1 : -1152921504606846976 ≤ x + a ∧ x + a ≤ 1152921504606846976) (h2 : -1152921504606846976 ≤ y + b ∧ y + b ≤ 1152921504606846976) (h3 : -1152921504606846976 ≤ z + c ∧ z + c ≤ 1152921504606846976) (w : World) :
    Calls Try.prog 19 #[V3 x y z, V3 a b c] w fun e w' => e = .returned (V3 (x + a) (y + b) (z + c)) ∧ Below w.heap.size w w' := by
  have := radd_any x y z a b c w
  rw [w64 (x := x + a) (by omega) (by omega), w64 (x := y + b) (by omega) (by omega), w64 (x := z + c) (by omega) (by omega)] at this
  exact this
theorem n3_le {n : Int} (h1 : 1 ≤ n) (h2 : n ≤ 16) : (0 ≤ n * n ∧ n * n ≤ 256) ∧ (1 ≤ n * n * n ∧ n * n * n ≤ 4096) := by
  have a := mul_le (a := n) (b := n) (A := 16) (B := 16) (by omega) h2 (by omega) h2
  have b := mul_le (a := n * n) (b := n) (A := 256) (B := 16) a.1 a.2 (by omega) h2
  exact ⟨a, cube_pos h1, b.2⟩
def RCRel (m S T : Nat) (cs ws : Array Value) (X Wt : Nat → Int) (w : World) (k : Nat) (i : Value) (wr : World) : Prop :=
  ∃ j, j ≤ m ∧ k = m - j ∧ i = .int .i64 (j : Int) ∧ (∀ o, wr.cell? ⟨S, o, none⟩ = cs[o]?) ∧ (∀ o, wr.cell? ⟨S + 1, o, none⟩ = (#[.int .i64 0, .int .i64 0, .int .i64 0] : Array Value)[o]?) ∧ (∀ o, wr.frozen? ⟨S + 1, o, none⟩ = false) ∧
    (∀ o, wr.cell? ⟨T, o, none⟩ = ws[o]?) ∧ (∀ o, wr.cell? ⟨T + 1, o, none⟩ = (#[.int .i64 (sums X Wt 0 j), .int .i64 (sums X Wt 1 j), .int .i64 (sums X Wt 2 j)] : Array Value)[o]?) ∧ (∀ o, wr.frozen? ⟨T + 1, o, none⟩ = false) ∧ Below S w wr
set_option maxHeartbeats 8000000 in
theorem rcubic_m (x0 y0 z0 x1 y1 z1 x2 y2 z2 x3 y3 z3 i n : Int) (h : there i n = true) (m : Nat) (hm : m ≤ 4)
    (hin : ∀ j, j < m → inB ((nth12 x0 y0 z0 x1 y1 z1 x2 y2 z2 x3 y3 z3) (j * 3)) ((nth12 x0 y0 z0 x1 y1 z1 x2 y2 z2 x3 y3 z3) (j * 3 + 1)) ((nth12 x0 y0 z0 x1 y1 z1 x2 y2 z2 x3 y3 z3) (j * 3 + 2)) 65536 = true) (hbad : m < 4 → inB ((nth12 x0 y0 z0 x1 y1 z1 x2 y2 z2 x3 y3 z3) (m * 3)) ((nth12 x0 y0 z0 x1 y1 z1 x2 y2 z2 x3 y3 z3) (m * 3 + 1)) ((nth12 x0 y0 z0 x1 y1 z1 x2 y2 z2 x3 y3 z3) (m * 3 + 2)) 65536 = false)
    (r0 r1 r2 : Int) (e0 : rnd (sums (nth12 x0 y0 z0 x1 y1 z1 x2 y2 z2 x3 y3 z3) (wts i n) 0 4) (n * n * n) = r0) (e1 : rnd (sums (nth12 x0 y0 z0 x1 y1 z1 x2 y2 z2 x3 y3 z3) (wts i n) 1 4) (n * n * n) = r1) (e2 : rnd (sums (nth12 x0 y0 z0 x1 y1 z1 x2 y2 z2 x3 y3 z3) (wts i n) 2 4) (n * n * n) = r2)
    (p q r : Int) (ok : Bool) (hR1 : m = 4 → Value.tuple #[V3 p q r, .bool ok] = .tuple #[V3 r0 r1 r2, .bool true]) (hR2 : m < 4 → Value.tuple #[V3 p q r, .bool ok] = .tuple #[V3 0 0 0, .bool false]) (w : World) :
    Calls Try.prog 28 #[.agg (C12 x0 y0 z0 x1 y1 z1 x2 y2 z2 x3 y3 z3), .int .i64 i, .int .i64 n] w fun e w' => e = .returned (.tuple #[V3 p q r, .bool ok]) ∧ Below w.heap.size w w' := by
  have TH : Hid (∀ w, Calls Try.prog 52 #[.int .i64 i, .int .i64 n] w fun e w' => e = .returned (.bool true) ∧ Below w.heap.size w w') := by
    intro w; have := rthere_any i n w; rw [h] at this; exact this
  have K := Lib.hid (rweights_any i n h)
  have hW := fun j hj => wts_le h j hj
  have ⟨g1, g2, _, _⟩ := there_iff.1 h
  have ⟨⟨m1, m2⟩, m3, m4⟩ := n3_le g1 g2
  have CX := Lib.hid (fun o ho => cells12 x0 y0 z0 x1 y1 z1 x2 y2 z2 x3 y3 z3 o ho)
  have CW := Lib.hid (fun o ho => cells4 i n o ho)
  obtain ⟨X, hX⟩ : ∃ X, (nth12 x0 y0 z0 x1 y1 z1 x2 y2 z2 x3 y3 z3) = X := ⟨_, rfl⟩
  obtain ⟨Wt, hWt⟩ : ∃ X, wts i n = X := ⟨_, rfl⟩
  obtain ⟨cs, hcs⟩ : ∃ X, (C12 x0 y0 z0 x1 y1 z1 x2 y2 z2 x3 y3 z3) = X := ⟨_, rfl⟩
  rw [hX] at hin hbad e0 e1 e2 CX
  rw [hWt] at hW e0 e1 e2 CW
  have bX : ∀ j, j < m → ∀ c, c < 3 → -65536 ≤ X (j * 3 + c) ∧ X (j * 3 + c) ≤ 65536 := by
    intro j hj c hc
    have := hin j hj
    rw [inB_iff (by omega) (by omega)] at this
    match c, hc with
    | 0, _ => exact this.1
    | 1, _ => exact this.2.1
    | 2, _ => exact this.2.2
  have HBX := Lib.hid bX
  have HW := Lib.hid hW
  have HI := Lib.hid hin
  have HBAD := Lib.hid hbad
  have E0 := Lib.hid e0
  have E1 := Lib.hid e1
  have E2 := Lib.hid e2
  have HR1 := Lib.hid hR1
  have HR2 := Lib.hid hR2
  clear h hin hbad e0 e1 e2 hR1 hR2 hX hWt bX hW hcs cs
  go_enter Try.func28, Try.ntmps28
  go_wp2_with (first
    | (go_at_call 52; ((with_reducible refine (TH.out _).mono ?_); rintro e w1 ⟨rfl, hb1⟩; have P1 : ∀ o, w1.cell? ⟨w.heap.size, o, none⟩ = (C12 x0 y0 z0 x1 y1 z1 x2 y2 z2 x3 y3 z3)[o]? := blk_later (by simp) hb1 (by (repeat (first | (with_reducible assumption) | (focus ((with_reducible refine new_at ?_ _ _); (repeat (first | (with_reducible rfl) | (with_reducible refine sz1 ?_))); done)) | (with_reducible refine blk_alloc (by simp) _ ?_) | (with_reducible refine blk_drew ?_)))); have Z1 : ∀ o, w1.cell? ⟨w.heap.size + 1, o, none⟩ = (#[.int .i64 0, .int .i64 0, .int .i64 0] : Array Value)[o]? := blk_later (by simp) hb1 (by (repeat (first | (with_reducible assumption) | (focus ((with_reducible refine new_at ?_ _ _); (repeat (first | (with_reducible rfl) | (with_reducible refine sz1 ?_))); done)) | (with_reducible refine blk_alloc (by simp) _ ?_) | (with_reducible refine blk_drew ?_)))); have F1 : ∀ o, w1.frozen? ⟨w.heap.size + 1, o, none⟩ = false := fro_call hb1 (by (repeat (first | (with_reducible assumption) | (focus ((with_reducible refine fro_new ?_ _ _); (repeat (first | (with_reducible rfl) | (with_reducible refine sz1 ?_))); done)) | ((with_reducible refine fro_more ?_ _ ?_); (repeat (first | (with_reducible assumption) | (focus ((with_reducible refine lt_new ?_); (repeat (first | (with_reducible rfl) | (with_reducible refine sz1 ?_))); done)) | (with_reducible refine lt_here ?_))))))) (by (repeat (first | (with_reducible assumption) | (focus ((with_reducible refine lt_new ?_); (repeat (first | (with_reducible rfl) | (with_reducible refine sz1 ?_))); done)) | (with_reducible refine lt_here ?_)))); have s1 : w.heap.size + 1 < w1.heap.size := blk_lt (by simp) Z1))
    | (go_at_call 53; ((with_reducible refine (K.out _).mono ?_); rintro e w2 ⟨rfl, hb2⟩; have P2 := blk_later (by simp) hb2 P1; have Z2 := blk_later (by simp) hb2 Z1; have F2 := fro_call hb2 F1 s1; have s2 : w.heap.size + 1 < w2.heap.size := blk_lt (by simp) Z2; have s2' : w.heap.size < w2.heap.size := (by omega); clear P1 Z1 F1)))
  go_loopg [10] m (fun k i' wr => RCRel m w.heap.size w2.heap.size (C12 x0 y0 z0 x1 y1 z1 x2 y2 z2 x3 y3 z3) (C4 (wt0 i n) (wt1 i n) (wt2 i n) (wt3 i n)) X Wt w k i' wr)
  case atStart => exact ⟨0, by omega, by omega, rfl, blk_alloc (by simp) _ (blk_alloc (by simp) _ P2), blk_alloc (by simp) _ (blk_alloc (by simp) _ Z2), fro_more (by rw [World.size_alloc]; omega) _ (fro_more s2 _ F2), by (repeat (first | (with_reducible assumption) | (focus ((with_reducible refine new_at ?_ _ _); (repeat (first | (with_reducible rfl) | (with_reducible refine sz1 ?_))); done)) | (with_reducible refine blk_alloc (by simp) _ ?_) | (with_reducible refine blk_drew ?_))), by simp only [sums]; (repeat (first | (with_reducible assumption) | (focus ((with_reducible refine new_at ?_ _ _); (repeat (first | (with_reducible rfl) | (with_reducible refine sz1 ?_))); done)) | (with_reducible refine blk_alloc (by simp) _ ?_) | (with_reducible refine blk_drew ?_))), by (repeat (first | (with_reducible assumption) | (focus ((with_reducible refine fro_new ?_ _ _); (repeat (first | (with_reducible rfl) | (with_reducible refine sz1 ?_))); done)) | ((with_reducible refine fro_more ?_ _ ?_); (repeat (first | (with_reducible assumption) | (focus ((with_reducible refine lt_new ?_); (repeat (first | (with_reducible rfl) | (with_reducible refine sz1 ?_))); done)) | (with_reducible refine lt_here ?_)))))), by (repeat' (first | (with_reducible exact Below.refl _ _) | (with_reducible refine bstep (by with_reducible assumption) ?_) | (with_reducible refine Below.alloc ?_ ?_ _) | (with_reducible refine Below.drew ?_) | (with_reducible refine below_drewN ?_ _) | (with_reducible refine Below.setCell ?_ ?_ _) | go_size))⟩
  case round =>
    obtain ⟨j, hj, rfl, rfl, P3, Z3, F3, Q3, U3, G3, hb⟩ := hrel
    have HB := Lib.hid hb
    have s3 : w2.heap.size + 1 < wr.heap.size := blk_lt (by simp) U3
    have s3' : w2.heap.size < wr.heap.size := by omega
    have s3z : w.heap.size + 1 < wr.heap.size := by omega
    have s3p : w.heap.size < wr.heap.size := by omega
    have HP3 := Lib.hid P3
    have HQ3 := Lib.hid Q3
    clear hb P2 Z2 F2
    by_cases hlm : j < 4
    · have c0 := (P3 (j * 3)).trans (CX.out (j * 3) (by omega))
      have c1 := (P3 (j * 3 + 1)).trans (CX.out (j * 3 + 1) (by omega))
      have c2 := (P3 (j * 3 + 2)).trans (CX.out (j * 3 + 2) (by omega))
      have y := (Q3 j).trans (CW.out j hlm)
      clear P3 Q3
      have hj0 : (0 : Int) ≤ (j : Int) := by omega
      have hj1 : (j : Int) < 4 := by omega
      by_cases hjm : j < m
      · have W1 : Hid (∀ w, Calls Try.prog 54 #[V3 (X (j * 3)) (X (j * 3 + 1)) (X (j * 3 + 2)), .int .i64 65536] w fun e w' => e = .returned (.bool true) ∧ Below w.heap.size w w') := by
          intro w; have := within0_any (X (j * 3)) (X (j * 3 + 1)) (X (j * 3 + 2)) 65536 w; rw [HI.out j hjm] at this; exact this
        have t0 := sums_le (n := m) (fun j hj => HBX.out j hj 0 (by omega)) (fun j hj => HW.out j (by omega)) j hj
        have t1 := sums_le (n := m) (fun j hj => HBX.out j hj 1 (by omega)) (fun j hj => HW.out j (by omega)) j hj
        have t2 := sums_le (n := m) (fun j hj => HBX.out j hj 2 (by omega)) (fun j hj => HW.out j (by omega)) j hj
        have ⟨w1', w2'⟩ := HW.out j hlm
        have v0 : -1099511627776 ≤ X (j * 3) * Wt j ∧ X (j * 3) * Wt j ≤ 1099511627776 := prod_le (HBX.out j hjm 0 (by omega)) ⟨w1', w2'⟩
        have v1 := prod_le (HBX.out j hjm 1 (by omega)) ⟨w1', w2'⟩
        have v2 := prod_le (HBX.out j hjm 2 (by omega)) ⟨w1', w2'⟩
        have n0 : sums X Wt 0 (j + 1) = sums X Wt 0 j + X (j * 3) * Wt j := rfl
        have n1 := sums_next X Wt 1 j
        have n2 := sums_next X Wt 2 j
        obtain ⟨p0, e0⟩ : ∃ p, X (j * 3) * Wt j = p := ⟨_, rfl⟩
        obtain ⟨p1, e1⟩ : ∃ p, X (j * 3 + 1) * Wt j = p := ⟨_, rfl⟩
        obtain ⟨p2, e2⟩ : ∃ p, X (j * 3 + 2) * Wt j = p := ⟨_, rfl⟩
        rw [e0] at v0 n0
        rw [e1] at v1 n1
        rw [e2] at v2 n2
        have M := Lib.hid (rscale_b _ _ _ _ p0 p1 p2 e0 e1 e2 v0 v1 v2)
        have A := Lib.hid (radd_b (sums X Wt 0 j) (sums X Wt 1 j) (sums X Wt 2 j) p0 p1 p2 (by omega) (by omega) (by omega))
        have N0 := Lib.hid n0
        have N1 := Lib.hid n1
        have N2 := Lib.hid n2
        clear e0 e1 e2 n0 n1 n2 t0 t1 t2 v0 v1 v2
        have nb : w2.heap.size + 1 ≠ w.heap.size := by omega
        have nz : w2.heap.size + 1 ≠ w.heap.size + 1 := by omega
        have nt : w2.heap.size + 1 ≠ w2.heap.size := by omega
        go_wp2_with (go_at_call 54; ((with_reducible refine (W1.out _).mono ?_); rintro e w4 ⟨rfl, hb4⟩; have P4 := Lib.hid (blk_later (by simp) hb4 HP3.out); have Z4 := blk_later (by simp) hb4 Z3; have F4 := fro_call hb4 F3 s3z; have Q4 := Lib.hid (blk_later (by simp) hb4 HQ3.out); have U4 := blk_later (by simp) hb4 U3; have G4 := fro_call hb4 G3 s3; have a0 := cell_later hb4 c0; have a1 := cell_later hb4 c1; have a2 := cell_later hb4 c2; have ay := cell_later hb4 y; have s4 : w2.heap.size + 1 < w4.heap.size := blk_lt (by simp) U4; have s4z : w.heap.size + 1 < w4.heap.size := blk_lt (by simp) Z4; have s4' : w2.heap.size < w4.heap.size := (by omega); have s4p : w.heap.size < w4.heap.size := (by omega); clear HP3 Z3 F3 HQ3 U3 G3 c0 c1 c2 y))
        refine wp_region_held_drew (S := (fun w' => w'.cell? ⟨w.heap.size, j * 3, none⟩ = some (.int .i64 (X (j * 3))) ∧ w'.cell? ⟨w.heap.size, j * 3 + 1, none⟩ = some (.int .i64 (X (j * 3 + 1))) ∧ w'.cell? ⟨w.heap.size, j * 3 + 2, none⟩ = some (.int .i64 (X (j * 3 + 2))) ∧ w'.cell? ⟨w2.heap.size, j, none⟩ = some (.int .i64 (Wt j)))) (by kernel_rfl) ?_ (fun hHeld => ?_)
        · (try dsimp only); (exact ⟨a0, a1, a2, ay⟩)
        refine wpAnyH_take (i := 1) (oi := { dst := some 31, op := Go.Op.move (Go.Operand.tmp 10), type := 3, pos := "ref.go:30", after := #[], guard := none }) (v := ?_) rfl (by kernel_rfl) (by kernel_rfl) (by kernel_rfl) (fun _ _ _ h => h) (Or.inl ⟨by rfl, ?_⟩) (by assumption) ?_
        rotate_left
        · intro w hSw; (try dsimp only at hSw); go_simp; (try with_reducible rfl)
        try simp only [Act.put, List.setIfInBounds_toArray, List.set_cons_zero, List.set_cons_succ]
        refine wpAnyH_take (i := 2) (oi := { dst := some 32, op := Go.Op.indexAddr 24 (Go.Operand.tmp 3) (Go.Operand.tmp 31), type := 0, pos := "ref.go:30", after := #[{ on := 1, ground := Go.Ground.data }], guard := none }) (v := ?_) rfl (by kernel_rfl) (by kernel_rfl) (by kernel_rfl) (fun _ _ _ h => h) (Or.inl ⟨by rfl, ?_⟩) (by assumption) ?_
        rotate_left
        · intro w hSw; (try dsimp only at hSw); go_simp; (try with_reducible rfl)
        try simp only [Act.put, List.setIfInBounds_toArray, List.set_cons_zero, List.set_cons_succ]
        refine wpAnyH_take (i := 3) (oi := { dst := some 33, op := Go.Op.load 23 (Go.Operand.tmp 32), type := 23, pos := "ref.go:30", after := #[{ on := 2, ground := Go.Ground.data }], guard := none }) (v := ?_) rfl (by kernel_rfl) (by kernel_rfl) (by kernel_rfl) (fun _ _ _ h => h) (Or.inl ⟨by rfl, ?_⟩) (by assumption) ?_
        rotate_left
        · intro w hSw; (try dsimp only at hSw); go_simp; (try with_reducible rfl)
        try simp only [Act.put, List.setIfInBounds_toArray, List.set_cons_zero, List.set_cons_succ]
        refine wpAnyH_take (i := 4) (oi := { dst := some 34, op := Go.Op.move (Go.Operand.tmp 10), type := 3, pos := "ref.go:30", after := #[], guard := none }) (v := ?_) rfl (by kernel_rfl) (by kernel_rfl) (by kernel_rfl) (fun _ _ _ h => h) (Or.inl ⟨by rfl, ?_⟩) (by assumption) ?_
        rotate_left
        · intro w hSw; (try dsimp only at hSw); go_simp; (try with_reducible rfl)
        try simp only [Act.put, List.setIfInBounds_toArray, List.set_cons_zero, List.set_cons_succ]
        refine wpAnyH_take (i := 5) (oi := { dst := some 35, op := Go.Op.indexAddr 53 (Go.Operand.tmp 8) (Go.Operand.tmp 34), type := 0, pos := "ref.go:30", after := #[{ on := 4, ground := Go.Ground.data }], guard := none }) (v := ?_) rfl (by kernel_rfl) (by kernel_rfl) (by kernel_rfl) (fun _ _ _ h => h) (Or.inl ⟨by rfl, ?_⟩) (by assumption) ?_
        rotate_left
        · intro w hSw; (try dsimp only at hSw); go_simp; (try with_reducible rfl)
        try simp only [Act.put, List.setIfInBounds_toArray, List.set_cons_zero, List.set_cons_succ]
        refine wpAnyH_take (i := 6) (oi := { dst := some 36, op := Go.Op.load 3 (Go.Operand.tmp 35), type := 3, pos := "ref.go:30", after := #[{ on := 5, ground := Go.Ground.data }], guard := none }) (v := ?_) rfl (by kernel_rfl) (by kernel_rfl) (by kernel_rfl) (fun _ _ _ h => h) (Or.inl ⟨by rfl, ?_⟩) (by assumption) ?_
        rotate_left
        · intro w hSw; (try dsimp only at hSw); go_simp; (try with_reducible rfl)
        try simp only [Act.put, List.setIfInBounds_toArray, List.set_cons_zero, List.set_cons_succ]
        refine wpAnyH_ready (rs := [0, 7]) (by kernel_rfl) (by simp) ?_
        refine AllReadyH.cons (o := { dst := some 30, op := Go.Op.load 23 (Go.Operand.tmp 9), type := 23, pos := "ref.go:30", after := #[], guard := none }) rfl (fun K hK => ?_) ?_
        · go_simp
          refine hK.out _ _ ?_ (fun hHeld0 => ?_)
          · (try dsimp only); (exact hHeld)
          clear hK K hHeld
          try simp only [Act.put, List.setIfInBounds_toArray, List.set_cons_zero, List.set_cons_succ]
          refine wpAnyH_ready (rs := [7]) (by kernel_rfl) (by simp) ?_
          refine AllReadyH.cons (o := { dst := some 37, op := Go.Op.call { callee := Go.Callee.value (Go.Operand.func 24), args := #[Go.Operand.tmp 33, Go.Operand.tmp 36], argTypes := #[23, 3] }, type := 23, pos := "ref.go:30", after := #[{ on := 3, ground := Go.Ground.data }, { on := 6, ground := Go.Ground.data }], guard := none }) rfl (fun K hK => ?_) AllReadyH.nil
          go_simp
          (go_at_call 24; ((with_reducible refine (M.out _).mono ?_); rintro e w5 ⟨rfl, hb5⟩; have P5 := Lib.hid (blk_later (by simp) hb5 (blk_drew P4.out)); have Z5 := blk_later (by simp) hb5 (blk_drew Z4); have F5 := fro_call hb5 (fro_drew F4) (lt_drew s4z); have Q5 := Lib.hid (blk_later (by simp) hb5 (blk_drew Q4.out)); have U5 := blk_later (by simp) hb5 (blk_drew U4); have G5 := fro_call hb5 (fro_drew G4) (lt_drew s4); have s5 : w2.heap.size + 1 < w5.heap.size := blk_lt (by simp) U5; have s5z : w.heap.size + 1 < w5.heap.size := blk_lt (by simp) Z5; have s5' : w2.heap.size < w5.heap.size := (by omega); have s5p : w.heap.size < w5.heap.size := (by omega); clear P4 Z4 F4 Q4 U4 G4))
          refine hK.out _ _ ?_ (fun hHeld7 => ?_)
          · (try dsimp only); (exact ⟨cell_later hb5 hHeld0.1, cell_later hb5 hHeld0.2.1, cell_later hb5 hHeld0.2.2.1, cell_later hb5 hHeld0.2.2.2⟩)
          clear hK K hHeld0
          try simp only [Act.put, List.setIfInBounds_toArray, List.set_cons_zero, List.set_cons_succ]
          refine wpAnyH_ready (rs := [8]) (by kernel_rfl) (by simp) ?_
          refine AllReadyH.cons (o := { dst := some 38, op := Go.Op.call { callee := Go.Callee.value (Go.Operand.func 19), args := #[Go.Operand.tmp 30, Go.Operand.tmp 37], argTypes := #[23, 23] }, type := 23, pos := "ref.go:30", after := #[{ on := 0, ground := Go.Ground.data }, { on := 7, ground := Go.Ground.data }, { on := 7, ground := Go.Ground.chain }], guard := none }) rfl (fun K hK => ?_) AllReadyH.nil
          go_simp
          (go_at_call 19; ((with_reducible refine (A.out _).mono ?_); rintro e w6 ⟨rfl, hb6⟩; have P6 := Lib.hid (blk_later (by simp) hb6 P5.out); have Z6 := blk_later (by simp) hb6 Z5; have F6 := fro_call hb6 F5 s5z; have Q6 := Lib.hid (blk_later (by simp) hb6 Q5.out); have U6 := blk_later (by simp) hb6 U5; have G6 := fro_call hb6 G5 s5; have s6 : w2.heap.size + 1 < w6.heap.size := blk_lt (by simp) U6; have s6z : w.heap.size + 1 < w6.heap.size := blk_lt (by simp) Z6; have s6' : w2.heap.size < w6.heap.size := (by omega); have s6p : w.heap.size < w6.heap.size := (by omega); clear P5 Z5 F5 Q5 U5 G5))
          refine hK.out _ _ ?_ (fun hHeld8 => ?_)
          · (try dsimp only); (exact ⟨cell_later hb6 hHeld7.1, cell_later hb6 hHeld7.2.1, cell_later hb6 hHeld7.2.2.1, cell_later hb6 hHeld7.2.2.2⟩)
          clear hK K hHeld7
          try simp only [Act.put, List.setIfInBounds_toArray, List.set_cons_zero, List.set_cons_succ]
          refine wpAnyH_ready (rs := [9]) (by kernel_rfl) (by simp) ?_
          refine AllReadyH.cons (o := { dst := none, op := Go.Op.store 23 (Go.Operand.tmp 9) (Go.Operand.tmp 38), type := 0, pos := "ref.go:30", after := #[{ on := 8, ground := Go.Ground.data }, { on := 8, ground := Go.Ground.chain }, { on := 0, ground := Go.Ground.phase }, { on := 1, ground := Go.Ground.phase }, { on := 2, ground := Go.Ground.phase }, { on := 3, ground := Go.Ground.phase }, { on := 4, ground := Go.Ground.phase }, { on := 5, ground := Go.Ground.phase }, { on := 6, ground := Go.Ground.phase }, { on := 7, ground := Go.Ground.phase }, { on := 8, ground := Go.Ground.phase }], guard := none }) rfl (fun K hK => ?_) AllReadyH.nil
          go_simp
          refine hK.out _ _ ?_ (fun hHeld9 => ?_)
          · (try dsimp only); (exact ⟨set3_far nb hHeld8.1, set3_far nb hHeld8.2.1, set3_far nb hHeld8.2.2.1, set3_far nt hHeld8.2.2.2⟩)
          clear hK K hHeld8
          try simp only [Act.put, List.setIfInBounds_toArray, List.set_cons_zero, List.set_cons_succ]
          refine wpAnyH_done (by kernel_rfl) ?_ _
          clear hHeld9
          go_wp2_with fail
          have HB' := HB.out
          go_roundg (m - (j + 1))
          case measure => omega
          case rel =>
            refine ⟨j + 1, by omega, rfl, by simp, st3_far nb P6.out, st3_far nz Z6, fun o => by simp [F6], st3_far nt Q6.out, ?_, fun o => by simp [G6], by (repeat' (first | (with_reducible exact Below.refl _ _) | (with_reducible refine bstep (by with_reducible assumption) ?_) | (with_reducible refine Below.alloc ?_ ?_ _) | (with_reducible refine Below.drew ?_) | (with_reducible refine below_drewN ?_ _) | (with_reducible refine Below.setCell ?_ ?_ _) | go_size))⟩
            rw [N0.out, N1.out, N2.out]
            exact st3_blk U6 (by simp) (by simp) (by simp) rfl
        refine AllReadyH.cons (o := { dst := some 37, op := Go.Op.call { callee := Go.Callee.value (Go.Operand.func 24), args := #[Go.Operand.tmp 33, Go.Operand.tmp 36], argTypes := #[23, 3] }, type := 23, pos := "ref.go:30", after := #[{ on := 3, ground := Go.Ground.data }, { on := 6, ground := Go.Ground.data }], guard := none }) rfl (fun K hK => ?_) ?_
        · go_simp
          (go_at_call 24; ((with_reducible refine (M.out _).mono ?_); rintro e w5 ⟨rfl, hb5⟩; have P5 := Lib.hid (blk_later (by simp) hb5 (blk_drew P4.out)); have Z5 := blk_later (by simp) hb5 (blk_drew Z4); have F5 := fro_call hb5 (fro_drew F4) (lt_drew s4z); have Q5 := Lib.hid (blk_later (by simp) hb5 (blk_drew Q4.out)); have U5 := blk_later (by simp) hb5 (blk_drew U4); have G5 := fro_call hb5 (fro_drew G4) (lt_drew s4); have s5 : w2.heap.size + 1 < w5.heap.size := blk_lt (by simp) U5; have s5z : w.heap.size + 1 < w5.heap.size := blk_lt (by simp) Z5; have s5' : w2.heap.size < w5.heap.size := (by omega); have s5p : w.heap.size < w5.heap.size := (by omega); clear P4 Z4 F4 Q4 U4 G4))
          refine hK.out _ _ ?_ (fun hHeld7 => ?_)
          · (try dsimp only); (exact ⟨cell_later hb5 hHeld.1, cell_later hb5 hHeld.2.1, cell_later hb5 hHeld.2.2.1, cell_later hb5 hHeld.2.2.2⟩)
          clear hK K hHeld
          try simp only [Act.put, List.setIfInBounds_toArray, List.set_cons_zero, List.set_cons_succ]
          refine wpAnyH_ready (rs := [0]) (by kernel_rfl) (by simp) ?_
          refine AllReadyH.cons (o := { dst := some 30, op := Go.Op.load 23 (Go.Operand.tmp 9), type := 23, pos := "ref.go:30", after := #[], guard := none }) rfl (fun K hK => ?_) AllReadyH.nil
          go_simp
          refine hK.out _ _ ?_ (fun hHeld0 => ?_)
          · (try dsimp only); (exact hHeld7)
          clear hK K hHeld7
          try simp only [Act.put, List.setIfInBounds_toArray, List.set_cons_zero, List.set_cons_succ]
          refine wpAnyH_ready (rs := [8]) (by kernel_rfl) (by simp) ?_
          refine AllReadyH.cons (o := { dst := some 38, op := Go.Op.call { callee := Go.Callee.value (Go.Operand.func 19), args := #[Go.Operand.tmp 30, Go.Operand.tmp 37], argTypes := #[23, 23] }, type := 23, pos := "ref.go:30", after := #[{ on := 0, ground := Go.Ground.data }, { on := 7, ground := Go.Ground.data }, { on := 7, ground := Go.Ground.chain }], guard := none }) rfl (fun K hK => ?_) AllReadyH.nil
          go_simp
          (go_at_call 19; ((with_reducible refine (A.out _).mono ?_); rintro e w6 ⟨rfl, hb6⟩; have P6 := Lib.hid (blk_later (by simp) hb6 P5.out); have Z6 := blk_later (by simp) hb6 Z5; have F6 := fro_call hb6 F5 s5z; have Q6 := Lib.hid (blk_later (by simp) hb6 Q5.out); have U6 := blk_later (by simp) hb6 U5; have G6 := fro_call hb6 G5 s5; have s6 : w2.heap.size + 1 < w6.heap.size := blk_lt (by simp) U6; have s6z : w.heap.size + 1 < w6.heap.size := blk_lt (by simp) Z6; have s6' : w2.heap.size < w6.heap.size := (by omega); have s6p : w.heap.size < w6.heap.size := (by omega); clear P5 Z5 F5 Q5 U5 G5))
          refine hK.out _ _ ?_ (fun hHeld8 => ?_)
          · (try dsimp only); (exact ⟨cell_later hb6 hHeld0.1, cell_later hb6 hHeld0.2.1, cell_later hb6 hHeld0.2.2.1, cell_later hb6 hHeld0.2.2.2⟩)
          clear hK K hHeld0
          try simp only [Act.put, List.setIfInBounds_toArray, List.set_cons_zero, List.set_cons_succ]
          refine wpAnyH_ready (rs := [9]) (by kernel_rfl) (by simp) ?_
          refine AllReadyH.cons (o := { dst := none, op := Go.Op.store 23 (Go.Operand.tmp 9) (Go.Operand.tmp 38), type := 0, pos := "ref.go:30", after := #[{ on := 8, ground := Go.Ground.data }, { on := 8, ground := Go.Ground.chain }, { on := 0, ground := Go.Ground.phase }, { on := 1, ground := Go.Ground.phase }, { on := 2, ground := Go.Ground.phase }, { on := 3, ground := Go.Ground.phase }, { on := 4, ground := Go.Ground.phase }, { on := 5, ground := Go.Ground.phase }, { on := 6, ground := Go.Ground.phase }, { on := 7, ground := Go.Ground.phase }, { on := 8, ground := Go.Ground.phase }], guard := none }) rfl (fun K hK => ?_) AllReadyH.nil
          go_simp
          refine hK.out _ _ ?_ (fun hHeld9 => ?_)
          · (try dsimp only); (exact ⟨set3_far nb hHeld8.1, set3_far nb hHeld8.2.1, set3_far nb hHeld8.2.2.1, set3_far nt hHeld8.2.2.2⟩)
          clear hK K hHeld8
          try simp only [Act.put, List.setIfInBounds_toArray, List.set_cons_zero, List.set_cons_succ]
          refine wpAnyH_done (by kernel_rfl) ?_ _
          clear hHeld9
          go_wp2_with fail
          have HB' := HB.out
          go_roundg (m - (j + 1))
          case measure => omega
          case rel =>
            refine ⟨j + 1, by omega, rfl, by simp, st3_far nb P6.out, st3_far nz Z6, fun o => by simp [F6], st3_far nt Q6.out, ?_, fun o => by simp [G6], by (repeat' (first | (with_reducible exact Below.refl _ _) | (with_reducible refine bstep (by with_reducible assumption) ?_) | (with_reducible refine Below.alloc ?_ ?_ _) | (with_reducible refine Below.drew ?_) | (with_reducible refine below_drewN ?_ _) | (with_reducible refine Below.setCell ?_ ?_ _) | go_size))⟩
            rw [N0.out, N1.out, N2.out]
            exact st3_blk U6 (by simp) (by simp) (by simp) rfl
        exact AllReadyH.nil
      · obtain rfl : j = m := by omega
        have W1 : Hid (∀ w, Calls Try.prog 54 #[V3 (X (j * 3)) (X (j * 3 + 1)) (X (j * 3 + 2)), .int .i64 65536] w fun e w' => e = .returned (.bool false) ∧ Below w.heap.size w w') := by
          intro w; have := within0_any (X (j * 3)) (X (j * 3 + 1)) (X (j * 3 + 2)) 65536 w; rw [HBAD.out hlm] at this; exact this
        go_wp2_with (go_at_call 54; ((with_reducible refine (W1.out _).mono ?_); rintro e w4 ⟨rfl, hb4⟩; have Z4 := blk_later (by simp) hb4 Z3; have F4 := fro_call hb4 F3 s3z; have s4z : w.heap.size + 1 < w4.heap.size := blk_lt (by simp) Z4))
        have k0 := s3_0 (u := .int .i64 0) (v := .int .i64 0) (x := .int .i64 0) (Z4 0)
        have k1 := s3_1 (u := .int .i64 0) (v := .int .i64 0) (x := .int .i64 0) (Z4 1)
        have k2 := s3_2 (u := .int .i64 0) (v := .int .i64 0) (x := .int .i64 0) (Z4 2)
        have HB' := HB.out
        rw [HR2.out hlm]
        refine bodyPost_ret (v := .tuple #[V3 0 0 0, .bool false]) (by simp [results, Try.results28, go_sem, k0, k1, k2]) rfl ?_
        exact ⟨rfl, by (repeat' (first | (with_reducible exact Below.refl _ _) | (with_reducible refine bstep (by with_reducible assumption) ?_) | (with_reducible refine Below.alloc ?_ ?_ _) | (with_reducible refine Below.drew ?_) | (with_reducible refine below_drewN ?_ _) | (with_reducible refine Below.setCell ?_ ?_ _) | go_size))⟩
    · obtain rfl : j = 4 := by omega
      obtain rfl : m = 4 := by omega
      have t0 := sums_le (n := 4) (fun j hj => HBX.out j hj 0 (by omega)) (fun j hj => HW.out j (by omega)) 4 (by omega)
      have t1 := sums_le (n := 4) (fun j hj => HBX.out j hj 1 (by omega)) (fun j hj => HW.out j (by omega)) 4 (by omega)
      have t2 := sums_le (n := 4) (fun j hj => HBX.out j hj 2 (by omega)) (fun j hj => HW.out j (by omega)) 4 (by omega)
      have OF := Lib.hid (rof_any (sums X Wt 0 4) (sums X Wt 1 4) (sums X Wt 2 4) (n * n * n) r0 r1 r2 E0.out E1.out E2.out m3 (by omega) (by omega) (by omega) (by omega))
      clear t0 t1 t2
      go_wp2_with (go_at_call 55; ((with_reducible refine (OF.out _).mono ?_); rintro e w4 ⟨rfl, hb4⟩; have Z4 := blk_later (by simp) hb4 Z3; have F4 := fro_call hb4 F3 s3z; have s4z : w.heap.size + 1 < w4.heap.size := blk_lt (by simp) Z4))
      have k0 := s3_0 (u := .int .i64 r0) (v := .int .i64 r1) (x := .int .i64 r2) (Z4 0)
      have k1 := s3_1 (u := .int .i64 r0) (v := .int .i64 r1) (x := .int .i64 r2) (Z4 1)
      have k2 := s3_2 (u := .int .i64 r0) (v := .int .i64 r1) (x := .int .i64 r2) (Z4 2)
      have HB' := HB.out
      rw [HR1.out (by simp)]
      refine bodyPost_ret (v := .tuple #[V3 r0 r1 r2, .bool true]) (by simp [results, Try.results28, go_sem, k0, k1, k2]) rfl ?_
      exact ⟨rfl, by (repeat' (first | (with_reducible exact Below.refl _ _) | (with_reducible refine bstep (by with_reducible assumption) ?_) | (with_reducible refine Below.alloc ?_ ?_ _) | (with_reducible refine Below.drew ?_) | (with_reducible refine below_drewN ?_ _) | (with_reducible refine Below.setCell ?_ ?_ _) | go_size))⟩
theorem rcubic_none (x0 y0 z0 x1 y1 z1 x2 y2 z2 x3 y3 z3 i n : Int) (h : there i n = false) (w : World) :
    Calls Try.prog 28 #[.agg (C12 x0 y0 z0 x1 y1 z1 x2 y2 z2 x3 y3 z3), .int .i64 i, .int .i64 n] w fun e w' => e = .returned (.tuple #[V3 0 0 0, .bool false]) ∧ Below w.heap.size w w' := by
  have TH : Hid (∀ w, Calls Try.prog 52 #[.int .i64 i, .int .i64 n] w fun e w' => e = .returned (.bool false) ∧ Below w.heap.size w w') := by
    intro w; have := rthere_any i n w; rw [h] at this; exact this
  clear h
  go_enter Try.func28, Try.ntmps28
  go_wp2_with (go_at_call 52; ((with_reducible refine (TH.out _).mono ?_); rintro e w1 ⟨rfl, hb1⟩; have Z1 : ∀ o, w1.cell? ⟨w.heap.size + 1, o, none⟩ = (#[.int .i64 0, .int .i64 0, .int .i64 0] : Array Value)[o]? := blk_later (by simp) hb1 (by (repeat (first | (with_reducible assumption) | (focus ((with_reducible refine new_at ?_ _ _); (repeat (first | (with_reducible rfl) | (with_reducible refine sz1 ?_))); done)) | (with_reducible refine blk_alloc (by simp) _ ?_) | (with_reducible refine blk_drew ?_)))); have F1 : ∀ o, w1.frozen? ⟨w.heap.size + 1, o, none⟩ = false := fro_call hb1 (by (repeat (first | (with_reducible assumption) | (focus ((with_reducible refine fro_new ?_ _ _); (repeat (first | (with_reducible rfl) | (with_reducible refine sz1 ?_))); done)) | ((with_reducible refine fro_more ?_ _ ?_); (repeat (first | (with_reducible assumption) | (focus ((with_reducible refine lt_new ?_); (repeat (first | (with_reducible rfl) | (with_reducible refine sz1 ?_))); done)) | (with_reducible refine lt_here ?_))))))) (by (repeat (first | (with_reducible assumption) | (focus ((with_reducible refine lt_new ?_); (repeat (first | (with_reducible rfl) | (with_reducible refine sz1 ?_))); done)) | (with_reducible refine lt_here ?_)))); have hl1 : w.heap.size + 1 < w1.heap.size := blk_lt (by simp) Z1))
  have k0 := s3_0 (u := .int .i64 0) (v := .int .i64 0) (x := .int .i64 0) (Z1 0)
  have k1 := s3_1 (u := .int .i64 0) (v := .int .i64 0) (x := .int .i64 0) (Z1 1)
  have k2 := s3_2 (u := .int .i64 0) (v := .int .i64 0) (x := .int .i64 0) (Z1 2)
  refine bodyPost_ret (v := .tuple #[V3 0 0 0, .bool false]) (by simp [results, Try.results28, go_sem, k0, k1, k2]) rfl ?_
  exact ⟨rfl, by (repeat' (first | (with_reducible exact Below.refl _ _) | (with_reducible refine bstep (by with_reducible assumption) ?_) | (with_reducible refine Below.alloc ?_ ?_ _) | (with_reducible refine Below.drew ?_) | (with_reducible refine below_drewN ?_ _) | (with_reducible refine Below.setCell ?_ ?_ _) | go_size))⟩
theorem rcubic_is (x0 y0 z0 x1 y1 z1 x2 y2 z2 x3 y3 z3 i n : Int) (ok : Bool) (p q r : Int) (hok : okC x0 y0 z0 x1 y1 z1 x2 y2 z2 x3 y3 z3 i n = ok) (ep : cub ok x0 x1 x2 x3 i n = p) (eq : cub ok y0 y1 y2 y3 i n = q) (er : cub ok z0 z1 z2 z3 i n = r) (w : World) :
    Calls Try.prog 28 #[.agg (C12 x0 y0 z0 x1 y1 z1 x2 y2 z2 x3 y3 z3), .int .i64 i, .int .i64 n] w fun e w' => e = .returned (.tuple #[V3 p q r, .bool ok]) ∧ Below w.heap.size w w' := by
  subst ep eq er
  cases h : there i n
  · obtain rfl : ok = false := by rw [← hok]; simp [okC, h]
    exact rcubic_none x0 y0 z0 x1 y1 z1 x2 y2 z2 x3 y3 z3 i n h w
  rw [okC, h, Bool.true_and] at hok
  cases h0 : inB x0 y0 z0 65536
  · obtain rfl : ok = false := by rw [← hok]; simp [h0]
    exact rcubic_m x0 y0 z0 x1 y1 z1 x2 y2 z2 x3 y3 z3 i n h 0 (by omega) (fun j hj => absurd hj (by omega)) (fun _ => h0) _ _ _ rfl rfl rfl _ _ _ _ (fun h => absurd h (by omega)) (fun _ => rfl) w
  cases h1 : inB x1 y1 z1 65536
  · obtain rfl : ok = false := by rw [← hok]; simp [h1]
    exact rcubic_m x0 y0 z0 x1 y1 z1 x2 y2 z2 x3 y3 z3 i n h 1 (by omega) (fun j hj => by match j, hj with | 0, _ => exact h0) (fun _ => h1) _ _ _ rfl rfl rfl _ _ _ _ (fun h => absurd h (by omega)) (fun _ => rfl) w
  cases h2 : inB x2 y2 z2 65536
  · obtain rfl : ok = false := by rw [← hok]; simp [h2]
    exact rcubic_m x0 y0 z0 x1 y1 z1 x2 y2 z2 x3 y3 z3 i n h 2 (by omega) (fun j hj => by match j, hj with | 0, _ => exact h0 | 1, _ => exact h1) (fun _ => h2) _ _ _ rfl rfl rfl _ _ _ _ (fun h => absurd h (by omega)) (fun _ => rfl) w
  cases h3 : inB x3 y3 z3 65536
  · obtain rfl : ok = false := by rw [← hok]; simp [h3]
    exact rcubic_m x0 y0 z0 x1 y1 z1 x2 y2 z2 x3 y3 z3 i n h 3 (by omega) (fun j hj => by match j, hj with | 0, _ => exact h0 | 1, _ => exact h1 | 2, _ => exact h2) (fun _ => h3) _ _ _ rfl rfl rfl _ _ _ _ (fun h => absurd h (by omega)) (fun _ => rfl) w
  obtain rfl : ok = true := by rw [← hok]; simp [h0, h1, h2, h3]
  have e : ∀ a b c d : Int, 0 + a * wt0 i n + b * wt1 i n + c * wt2 i n + d * wt3 i n = a * wt0 i n + b * wt1 i n + c * wt2 i n + d * wt3 i n := fun a b c d => by rw [Int.zero_add]
  exact rcubic_m x0 y0 z0 x1 y1 z1 x2 y2 z2 x3 y3 z3 i n h 4 (by omega) (fun j hj => by match j, hj with | 0, _ => exact h0 | 1, _ => exact h1 | 2, _ => exact h2 | 3, _ => exact h3) (fun h => absurd h (by omega)) (cubv x0 x1 x2 x3 i n) (cubv y0 y1 y2 y3 i n) (cubv z0 z1 z2 z3 i n)
    (by rw [cubv]; simp only [sums, wts, nth12, e]) (by rw [cubv]; simp only [sums, wts, nth12, e]) (by rw [cubv]; simp only [sums, wts, nth12, e]) _ _ _ _ (fun _ => rfl) (fun h => absurd h (by omega)) w
end Go.Proofs.Ytdemcleibpgglaa
