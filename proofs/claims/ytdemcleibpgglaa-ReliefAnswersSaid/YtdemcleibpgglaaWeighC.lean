/- Points, each as often as its weight: what curve.weigh answers with the weights of a curve. -/
import Derived.Test.YtdemcleibpgglaaWeights
import Derived.Deep.DeepCutAuto
import Derived.IntWalk
namespace Go.Proofs.Ytdemcleibpgglaa
open Go.RowKit
set_option maxRecDepth 100000
set_option linter.unusedSimpArgs false
set_option linter.unusedVariables false
/-- No cell of a block is frozen, behind a call. -/
theorem fro_later {W w' : World} {b : Nat} (hl : b < W.heap.size) (hb : Below W.heap.size W w') (h : ∀ o, W.frozen? ⟨b, o, none⟩ = false) : ∀ o, w'.frozen? ⟨b, o, none⟩ = false := fun o => (hb.frozen (p := ⟨b, o, none⟩) hl).trans (h o)
theorem fro_alloc {W : World} {b : Nat} (hl : b < W.heap.size) (x : Obj) (h : ∀ o, W.frozen? ⟨b, o, none⟩ = false) : ∀ o, (W.alloc x).frozen? ⟨b, o, none⟩ = false := fro_later hl ((Below.refl W.heap.size W).alloc (Nat.le_refl _) x) h
theorem fro_step {W w' : World} {b : Nat} (hb : Below W.heap.size W w') (h : ∀ o, W.frozen? ⟨b, o, none⟩ = false) (hl : b < W.heap.size) : ∀ o, w'.frozen? ⟨b, o, none⟩ = false := fro_later hl hb h
/-- Three stores into a block, and a cell of another one; the three cells themselves. -/
theorem set3_far {w : World} {b b' : Nat} {u v x : Value} {o : Nat} {y : Value} (hn : b ≠ b') (h : w.cell? ⟨b', o, none⟩ = some y) : (((w.setCell ⟨b, 0, none⟩ u).setCell ⟨b, 1, none⟩ v).setCell ⟨b, 2, none⟩ x).cell? ⟨b', o, none⟩ = some y := by
  rw [World.cell?_setCell_other _ _ _ _ (by simp [hn]), World.cell?_setCell_other _ _ _ _ (by simp [hn]), World.cell?_setCell_other _ _ _ _ (by simp [hn])]; exact h
theorem set3_0 {w : World} {b : Nat} {u v x y : Value} (h : w.cell? ⟨b, 0, none⟩ = some y) : (((w.setCell ⟨b, 0, none⟩ u).setCell ⟨b, 1, none⟩ v).setCell ⟨b, 2, none⟩ x).cell? ⟨b, 0, none⟩ = some u := by
  rw [World.cell?_setCell_other _ _ _ _ (by simp), World.cell?_setCell_other _ _ _ _ (by simp)]; exact World.cell?_setCell_same _ _ _ h
theorem set3_1 {w : World} {b : Nat} {u v x y : Value} (h : w.cell? ⟨b, 1, none⟩ = some y) : (((w.setCell ⟨b, 0, none⟩ u).setCell ⟨b, 1, none⟩ v).setCell ⟨b, 2, none⟩ x).cell? ⟨b, 1, none⟩ = some v := by
  rw [World.cell?_setCell_other _ _ _ _ (by simp)]
  exact World.cell?_setCell_same _ _ _ ((World.cell?_setCell_other _ _ _ _ (by simp)).trans h)
theorem set3_2 {w : World} {b : Nat} {u v x y : Value} (h : w.cell? ⟨b, 2, none⟩ = some y) : (((w.setCell ⟨b, 0, none⟩ u).setCell ⟨b, 1, none⟩ v).setCell ⟨b, 2, none⟩ x).cell? ⟨b, 2, none⟩ = some x :=
  World.cell?_setCell_same _ _ _ ((World.cell?_setCell_other _ _ _ _ (by simp)).trans ((World.cell?_setCell_other _ _ _ _ (by simp)).trans h))
/-- What a cell holds, whatever it is. -/
def cellv (w : World) (b o : Nat) : Value := (w.cell? ⟨b, o, none⟩).getD undef
theorem cellv_of {w : World} {b o : Nat} {v : Value} (h : w.cell? ⟨b, o, none⟩ = some v) : w.cell? ⟨b, o, none⟩ = some (cellv w b o) := by
  rw [cellv, h]; rfl
theorem cellv_later {W w' : World} {b o : Nat} (hb : Below W.heap.size W w') (h : W.cell? ⟨b, o, none⟩ = some (cellv W b o)) : w'.cell? ⟨b, o, none⟩ = some (cellv w' b o) := cellv_of (cell_later hb h)
theorem clo_any (k : Nat) (hk : k < 4) (bw : Nat) (v : Int) (w : World) (hc : w.cell? ⟨bw, k, none⟩ = some (.int .i64 v)) :
    Calls Try.prog 42 #[.int .i64 (k : Int), .pointer (some ⟨bw, 0, none⟩)] w fun e w' => e = .returned (.int .i64 v) ∧ w = w' := by
  have h1 : (k : Int) < 4 := by omega
  go_enter Try.func42, Try.ntmps42
  go_wp2
  go_returns
  exact ⟨by simp, rfl⟩
theorem cellv_0 {w : World} {b : Nat} {u v x y : Value} (h : w.cell? ⟨b, 0, none⟩ = some y) : (((w.setCell ⟨b, 0, none⟩ u).setCell ⟨b, 1, none⟩ v).setCell ⟨b, 2, none⟩ x).cell? ⟨b, 0, none⟩ = some (cellv (((w.setCell ⟨b, 0, none⟩ u).setCell ⟨b, 1, none⟩ v).setCell ⟨b, 2, none⟩ x) b 0) := cellv_of (set3_0 h)
theorem cellv_1 {w : World} {b : Nat} {u v x y : Value} (h : w.cell? ⟨b, 1, none⟩ = some y) : (((w.setCell ⟨b, 0, none⟩ u).setCell ⟨b, 1, none⟩ v).setCell ⟨b, 2, none⟩ x).cell? ⟨b, 1, none⟩ = some (cellv (((w.setCell ⟨b, 0, none⟩ u).setCell ⟨b, 1, none⟩ v).setCell ⟨b, 2, none⟩ x) b 1) := cellv_of (set3_1 h)
theorem cellv_2 {w : World} {b : Nat} {u v x y : Value} (h : w.cell? ⟨b, 2, none⟩ = some y) : (((w.setCell ⟨b, 0, none⟩ u).setCell ⟨b, 1, none⟩ v).setCell ⟨b, 2, none⟩ x).cell? ⟨b, 2, none⟩ = some (cellv (((w.setCell ⟨b, 0, none⟩ u).setCell ⟨b, 1, none⟩ v).setCell ⟨b, 2, none⟩ x) b 2) := cellv_of (set3_2 h)
/-- The weights' sum, and a part's weighed sum. -/
def alls (Wt : Nat → Int) : Nat → Int
  | 0 => 0
  | k + 1 => alls Wt k + Wt k
def sums (X Wt : Nat → Int) (c : Nat) : Nat → Int
  | 0 => 0
  | k + 1 => sums X Wt c k + X (k * 3 + c) * Wt k
theorem alls_le {Wt : Nat → Int} {n : Nat} (h : ∀ j, j < n → 0 ≤ Wt j ∧ Wt j ≤ 16777216) : ∀ k, k ≤ n → 0 ≤ alls Wt k ∧ alls Wt k ≤ k * 16777216
  | 0, _ => by simp [alls]
  | k + 1, hk => by
    have := alls_le h k (by omega)
    have := h k (by omega)
    simp only [alls]; omega
theorem prod_le {a b : Int} (h0 : -65536 ≤ a ∧ a ≤ 65536) (h1 : 0 ≤ b ∧ b ≤ 16777216) : -1099511627776 ≤ a * b ∧ a * b ≤ 1099511627776 := by
  obtain ⟨a1, a2⟩ := h0
  obtain ⟨b1, b2⟩ := h1
  have p1 := Int.mul_le_mul_of_nonneg_right a1 b1
  have p2 := Int.mul_le_mul_of_nonneg_right a2 b1
  omega
theorem sums_le {X Wt : Nat → Int} {n c : Nat} (hX : ∀ j, j < n → -65536 ≤ X (j * 3 + c) ∧ X (j * 3 + c) ≤ 65536) (h : ∀ j, j < n → 0 ≤ Wt j ∧ Wt j ≤ 16777216) : ∀ k, k ≤ n → -(k * 1099511627776) ≤ sums X Wt c k ∧ sums X Wt c k ≤ k * 1099511627776
  | 0, _ => by simp [sums]
  | k + 1, hk => by
    have := sums_le hX h k (by omega)
    have := prod_le (hX k (by omega)) (h k (by omega))
    simp only [sums]; omega
theorem scale_in (x y z k p q r : Int) (e1 : x * k = p) (e2 : y * k = q) (e3 : z * k = r) (h1 : -1099511627776 ≤ p ∧ p ≤ 1099511627776) (h2 : -1099511627776 ≤ q ∧ q ≤ 1099511627776) (h3 : -1099511627776 ≤ r ∧ r ≤ 1099511627776) (w : World) :
    Calls Try.prog 46 #[V3 x y z, .int .i64 k] w fun e w' => e = .returned (V3 p q r) ∧ Below w.heap.size w w' := by
  subst e1 e2 e3
  have := scale_any x y z k w
  rw [w64 (x := x * k) (by omega) (by omega), w64 (x := y * k) (by omega) (by omega), w64 (x := z * k) (by omega) (by omega)] at this
  exact this
theorem add_in (x y z a b c : Int) (h1 : -1152921504606846976 ≤ x + a ∧ x + a ≤ 1152921504606846976) (h2 : -1152921504606846976 ≤ y + b ∧ y + b ≤ 1152921504606846976) (h3 : -1152921504606846976 ≤ z + c ∧ z + c ≤ 1152921504606846976) (w : World) :
    Calls Try.prog 44 #[V3 x y z, V3 a b c] w fun e w' => e = .returned (V3 (x + a) (y + b) (z + c)) ∧ Below w.heap.size w w' := by
  have := add_any x y z a b c w
  rw [w64 (x := x + a) (by omega) (by omega), w64 (x := y + b) (by omega) (by omega), w64 (x := z + c) (by omega) (by omega)] at this
  exact this
/-- A part of a point, by its name. -/
theorem sums_next (X Wt : Nat → Int) (c k : Nat) : sums X Wt c (k + 1) = sums X Wt c k + X (k * 3 + c) * Wt k := rfl
def WRel (n S : Nat) (X Wt : Nat → Int) (w : World) (k : Nat) (a i : Value) (wr : World) : Prop :=
  ∃ j, j ≤ n ∧ k = n - j ∧ i = .int .i64 (j : Int) ∧ a = .int .i64 (alls Wt j) ∧ wr.cell? ⟨S, 0, none⟩ = some (.int .i64 0) ∧ wr.cell? ⟨S, 1, none⟩ = some (.int .i64 0) ∧ wr.cell? ⟨S, 2, none⟩ = some (.int .i64 0) ∧
    (∀ o, wr.frozen? ⟨S, o, none⟩ = false) ∧ (∀ o, wr.frozen? ⟨S + 1, o, none⟩ = false) ∧ wr.cell? ⟨S + 1, 0, none⟩ = some (.int .i64 (sums X Wt 0 j)) ∧ wr.cell? ⟨S + 1, 1, none⟩ = some (.int .i64 (sums X Wt 1 j)) ∧ wr.cell? ⟨S + 1, 2, none⟩ = some (.int .i64 (sums X Wt 2 j)) ∧ Below S w wr
set_option maxHeartbeats 4000000 in
theorem weigh_any (B bw n m : Nat) (hn : n ≤ 4) (hm : m ≤ n) (hB : B ≠ bw) (X Wt : Nat → Int) (hW : ∀ j, j < n → 0 ≤ Wt j ∧ Wt j ≤ 16777216) (w : World) (hp : ∀ o, o < n * 3 → w.cell? ⟨B, o, none⟩ = some (.int .i64 (X o))) (hw : ∀ j, j < n → w.cell? ⟨bw, j, none⟩ = some (.int .i64 (Wt j)))
    (hin : ∀ j, j < m → inB (X (j * 3)) (X (j * 3 + 1)) (X (j * 3 + 2)) 65536 = true) (hbad : m < n → inB (X (m * 3)) (X (m * 3 + 1)) (X (m * 3 + 2)) 65536 = false) (hA : m = n → 1 ≤ alls Wt n) (r0 r1 r2 : Int) (e0 : rnd (sums X Wt 0 n) (alls Wt n) = r0) (e1 : rnd (sums X Wt 1 n) (alls Wt n) = r1) (e2 : rnd (sums X Wt 2 n) (alls Wt n) = r2) (R : Value) (hR1 : m = n → R = .tuple #[V3 r0 r1 r2, .bool true]) (hR2 : m < n → R = .tuple #[V3 0 0 0, .bool false]) :
    Calls Try.prog 41 #[.slice (some ⟨B, 0, none⟩) n n, .func (.func 42) #[] #[.pointer (some ⟨bw, 0, none⟩)]] w fun e w' => e = .returned R ∧ Below w.heap.size w w' := by
  have HR1 := Lib.hid hR1
  have HR2 := Lib.hid hR2
  have HBAD := Lib.hid hbad
  have HA := Lib.hid hA
  clear hR1 hR2 hbad hA
  have HP := Lib.hid hp
  have HW := Lib.hid hw
  have HI := Lib.hid hin
  have E0 := Lib.hid e0
  have E1 := Lib.hid e1
  have E2 := Lib.hid e2
  clear hp hw hin e0 e1 e2
  go_enter Try.func41, Try.ntmps41
  go_wp2
  go_loopg [7, 12] m (fun k a i wr => WRel m w.heap.size X Wt w k a i wr)
  case atStart => exact ⟨0, by omega, by omega, rfl, rfl, by simp, by simp, by simp, fun o => by simp, fun o => by simp, by simp [sums], by simp [sums], by simp [sums], by go_grown⟩
  case round =>
    obtain ⟨j, hj, rfl, rfl, rfl, z0, z1, z2, f0, f1, s0, s1, s2, hb⟩ := hrel
    have HB := Lib.hid hb
    by_cases hlm : j < m
    · have hlt : j < n := by omega
      have x0 := cell_later hb (HP.out (j * 3) (by omega))
      have x1 := cell_later hb (HP.out (j * 3 + 1) (by omega))
      have x2 := cell_later hb (HP.out (j * 3 + 2) (by omega))
      have y := cell_later hb (HW.out j hlt)
      have W1 : Hid (∀ w, Calls Try.prog 18 #[V3 (X (j * 3)) (X (j * 3 + 1)) (X (j * 3 + 2)), .int .i64 65536] w fun e w' => e = .returned (.bool true) ∧ Below w.heap.size w w') := by
        intro w; have := within_any (X (j * 3)) (X (j * 3 + 1)) (X (j * 3 + 2)) 65536 w; rw [HI.out j hlm] at this; exact this
      have hj0 : (0 : Int) ≤ (j : Int) := by omega
      have hj1 : (j : Int) < (n : Int) := by omega
      clear hb
      have bX : ∀ j, j < m → ∀ c, c < 3 → -65536 ≤ X (j * 3 + c) ∧ X (j * 3 + c) ≤ 65536 := by
        intro j hj c hc
        have := HI.out j hj
        rw [inB_iff (by omega) (by omega)] at this
        match c, hc with
        | 0, _ => exact this.1
        | 1, _ => exact this.2.1
        | 2, _ => exact this.2.2
      have ⟨u1, u2⟩ := alls_le hW j (by omega)
      have t0 := sums_le (n := m) (fun j hj => bX j hj 0 (by omega)) (fun j hj => hW j (by omega)) j hj
      have t1 := sums_le (n := m) (fun j hj => bX j hj 1 (by omega)) (fun j hj => hW j (by omega)) j hj
      have t2 := sums_le (n := m) (fun j hj => bX j hj 2 (by omega)) (fun j hj => hW j (by omega)) j hj
      have ⟨w1, w2⟩ := hW j hlt
      have v0 : -1099511627776 ≤ X (j * 3) * Wt j ∧ X (j * 3) * Wt j ≤ 1099511627776 := prod_le (bX j hlm 0 (by omega)) ⟨w1, w2⟩
      have v1 := prod_le (bX j hlm 1 (by omega)) ⟨w1, w2⟩
      have v2 := prod_le (bX j hlm 2 (by omega)) ⟨w1, w2⟩
      have n0 : sums X Wt 0 (j + 1) = sums X Wt 0 j + X (j * 3) * Wt j := rfl
      have n1 := sums_next X Wt 1 j
      have n2 := sums_next X Wt 2 j
      have n3 : alls Wt (j + 1) = alls Wt j + Wt j := rfl
      clear bX
      obtain ⟨p0, e0⟩ : ∃ p, X (j * 3) * Wt j = p := ⟨_, rfl⟩
      obtain ⟨p1, e1⟩ : ∃ p, X (j * 3 + 1) * Wt j = p := ⟨_, rfl⟩
      obtain ⟨p2, e2⟩ : ∃ p, X (j * 3 + 2) * Wt j = p := ⟨_, rfl⟩
      rw [e0] at v0 n0
      rw [e1] at v1 n1
      rw [e2] at v2 n2
      have M := Lib.hid (scale_in _ _ _ _ p0 p1 p2 e0 e1 e2 v0 v1 v2)
      have A := Lib.hid (add_in (sums X Wt 0 j) (sums X Wt 1 j) (sums X Wt 2 j) p0 p1 p2 (by omega) (by omega) (by omega))
      have N0 := Lib.hid n0
      have N1 := Lib.hid n1
      have N2 := Lib.hid n2
      have N3 := Lib.hid n3
      clear e0 e1 e2 n0 n1 n2 n3 t0 t1 t2 v0 v1 v2 hW
      go_wp2_with (go_at_call 18; ((with_reducible refine (W1.out _).mono ?_); rintro e w3 ⟨rfl, hb3⟩))
      have d0 : w3.cell? ⟨wr.heap.size, 0, none⟩ = some (.int .i64 (X (j * 3))) := cell_later hb3 (by simp)
      have d1 : w3.cell? ⟨wr.heap.size, 1, none⟩ = some (.int .i64 (X (j * 3 + 1))) := cell_later hb3 (by simp)
      have d2 : w3.cell? ⟨wr.heap.size, 2, none⟩ = some (.int .i64 (X (j * 3 + 2))) := cell_later hb3 (by simp)
      have z3 := cell_later hb3 (cell_alloc (.cells #[.int .i64 (X (j * 3)), .int .i64 (X (j * 3 + 1)), .int .i64 (X (j * 3 + 2))] 23) z0)
      have z4 := cell_later hb3 (cell_alloc (.cells #[.int .i64 (X (j * 3)), .int .i64 (X (j * 3 + 1)), .int .i64 (X (j * 3 + 2))] 23) z1)
      have z5 := cell_later hb3 (cell_alloc (.cells #[.int .i64 (X (j * 3)), .int .i64 (X (j * 3 + 1)), .int .i64 (X (j * 3 + 2))] 23) z2)
      have s3 := cell_later hb3 (cell_alloc (.cells #[.int .i64 (X (j * 3)), .int .i64 (X (j * 3 + 1)), .int .i64 (X (j * 3 + 2))] 23) s0)
      have s4 := cell_later hb3 (cell_alloc (.cells #[.int .i64 (X (j * 3)), .int .i64 (X (j * 3 + 1)), .int .i64 (X (j * 3 + 2))] 23) s1)
      have s5 := cell_later hb3 (cell_alloc (.cells #[.int .i64 (X (j * 3)), .int .i64 (X (j * 3 + 1)), .int .i64 (X (j * 3 + 2))] 23) s2)
      have y3 := cell_later hb3 (cell_alloc (.cells #[.int .i64 (X (j * 3)), .int .i64 (X (j * 3 + 1)), .int .i64 (X (j * 3 + 2))] 23) y)
      have hl : w.heap.size + 1 < wr.heap.size := World.block_lt_of_cell? wr ⟨w.heap.size + 1, 0, none⟩ s0
      have hl3 : w.heap.size + 1 < w3.heap.size := World.block_lt_of_cell? w3 ⟨w.heap.size + 1, 0, none⟩ s3
      have hl4 : w.heap.size < w3.heap.size := by omega
      have hl5 : wr.heap.size < w3.heap.size := World.block_lt_of_cell? w3 ⟨wr.heap.size, 0, none⟩ d0
      have hl0 : w.heap.size < wr.heap.size := by omega
      have f3 : ∀ o, w3.frozen? ⟨w.heap.size, o, none⟩ = false := fro_later (by rw [World.size_alloc]; omega) hb3 (fro_alloc hl0 _ f0)
      have f4 : ∀ o, w3.frozen? ⟨w.heap.size + 1, o, none⟩ = false := fro_later (by rw [World.size_alloc]; omega) hb3 (fro_alloc hl _ f1)
      clear z0 z1 z2 s0 s1 s2 y f0 f1 x0 x1 x2
      have nb : w.heap.size + 1 ≠ bw := by have := World.block_lt_of_cell? w ⟨bw, j, none⟩ (HW.out j hlt); simp at this; omega
      have ns : w.heap.size + 1 ≠ w.heap.size := by omega
      go_cut [] (fun wx => (wx.cell? ⟨w.heap.size, 0, none⟩ = some (.int .i64 0) ∧ wx.cell? ⟨w.heap.size, 1, none⟩ = some (.int .i64 0) ∧ wx.cell? ⟨w.heap.size, 2, none⟩ = some (.int .i64 0)) ∧ (∀ o, wx.frozen? ⟨w.heap.size, o, none⟩ = false) ∧ (∀ o, wx.frozen? ⟨w.heap.size + 1, o, none⟩ = false) ∧
        (wx.cell? ⟨w.heap.size + 1, 0, none⟩ = some (.int .i64 (sums X Wt 0 (j + 1))) ∧ wx.cell? ⟨w.heap.size + 1, 1, none⟩ = some (.int .i64 (sums X Wt 1 (j + 1))) ∧ wx.cell? ⟨w.heap.size + 1, 2, none⟩ = some (.int .i64 (sums X Wt 2 (j + 1)))) ∧ wx.cell? ⟨bw, j, none⟩ = some (.int .i64 (Wt j)) ∧ Below w.heap.size w wx)
      case first =>
        go_region_with (first
          | (go_at_call 42; ((with_reducible refine (clo_any j (by omega) bw (Wt j) _ (cell_drew y3)).mono ?_); rintro e w4 ⟨rfl, rfl⟩))
          | (go_at_call 46; ((with_reducible refine (M.out _).mono ?_); rintro e w5 ⟨rfl, hb5⟩; have s6 := cell_later hb5 (cell_drew s3); have s7 := cell_later hb5 (cell_drew s4); have s8 := cell_later hb5 (cell_drew s5); have z6 := cell_later hb5 (cell_drew z3); have z7 := cell_later hb5 (cell_drew z4); have z8 := cell_later hb5 (cell_drew z5); have y6 := cell_later hb5 (cell_drew y3); have f6 := fro_later (W := w3.drew) hl4 hb5 f3; have f7 := fro_later (W := w3.drew) hl3 hb5 f4; have hl6 := World.block_lt_of_cell? w5 ⟨w.heap.size + 1, 0, none⟩ s6; have hl7 : w.heap.size < w5.heap.size := Nat.lt_trans (Nat.lt_succ_self _) hl6; clear s3 s4 s5 z3 z4 z5 y3 f3 f4 d0 d1 d2))
          | (go_at_call 44; ((with_reducible refine (A.out _).mono ?_); rintro e w6 ⟨rfl, hb6⟩; have s9 := cell_later hb6 s6; have s10 := cell_later hb6 s7; have s11 := cell_later hb6 s8; have z9 := cell_later hb6 z6; have z10 := cell_later hb6 z7; have z11 := cell_later hb6 z8; have y9 := cell_later hb6 y6; have f9 := fro_later hl7 hb6 f6; have f10 := fro_later hl6 hb6 f7; clear s6 s7 s8 z6 z7 z8 y6 f6 f7)))
        all_goals
          go_wp2_with fail
          go_meet
          have HB' := HB.out
          rw [N0.out, N1.out, N2.out]
          exact ⟨⟨set3_far ns z9, set3_far ns z10, set3_far ns z11⟩, fun o => by simp [f9], fun o => by simp [f10], ⟨set3_0 s9, set3_1 s10, set3_2 s11⟩, set3_far nb y9, by (repeat' (first | (with_reducible exact Below.refl _ _) | (with_reducible refine bstep (by with_reducible assumption) ?_) | (with_reducible refine Below.alloc ?_ ?_ _) | (with_reducible refine Below.drew ?_) | (with_reducible refine below_drewN ?_ _) | (with_reducible refine Below.setCell ?_ ?_ _) | go_size))⟩
      case rest =>
        obtain ⟨⟨z9, z10, z11⟩, f9, f10, ⟨s9, s10, s11⟩, y9, hbx⟩ := hcut
        have HX := Lib.hid hbx
        clear hbx
        go_wp2_with (go_at_call 42; ((with_reducible refine (clo_any j (by omega) bw (Wt j) _ (by assumption)).mono ?_); rintro e w4 ⟨rfl, rfl⟩))
        have HB' := HX.out
        go_roundg (m - (j + 1))
        case measure => omega
        case rel => exact ⟨j + 1, by omega, rfl, by simp, by rw [N3.out], z9, z10, z11, f9, f10, s9, s10, s11, HB'⟩
    · obtain rfl : j = m := by omega
      by_cases hlt : j < n
      · have x0 := cell_later hb (HP.out (j * 3) (by omega))
        have x1 := cell_later hb (HP.out (j * 3 + 1) (by omega))
        have x2 := cell_later hb (HP.out (j * 3 + 2) (by omega))
        have W1 : Hid (∀ w, Calls Try.prog 18 #[V3 (X (j * 3)) (X (j * 3 + 1)) (X (j * 3 + 2)), .int .i64 65536] w fun e w' => e = .returned (.bool false) ∧ Below w.heap.size w w') := by
          intro w; have := within_any (X (j * 3)) (X (j * 3 + 1)) (X (j * 3 + 2)) 65536 w; rw [HBAD.out hlt] at this; exact this
        have hj0 : (0 : Int) ≤ (j : Int) := by omega
        have hj1 : (j : Int) < (n : Int) := by omega
        have hl0 : w.heap.size < wr.heap.size := World.block_lt_of_cell? wr ⟨w.heap.size, 0, none⟩ z0
        have hr := HR2.out hlt
        have HR := Lib.hid hr
        clear hb hr s0 s1 s2 f1
        go_wp2_with (go_at_call 18; ((with_reducible refine (W1.out _).mono ?_); rintro e w3 ⟨rfl, hb3⟩; have z3 := cell_later hb3 (cell_alloc (.cells #[.int .i64 (X (j * 3)), .int .i64 (X (j * 3 + 1)), .int .i64 (X (j * 3 + 2))] 23) z0); have z4 := cell_later hb3 (cell_alloc (.cells #[.int .i64 (X (j * 3)), .int .i64 (X (j * 3 + 1)), .int .i64 (X (j * 3 + 2))] 23) z1); have z5 := cell_later hb3 (cell_alloc (.cells #[.int .i64 (X (j * 3)), .int .i64 (X (j * 3 + 1)), .int .i64 (X (j * 3 + 2))] 23) z2); have f3 : ∀ o, w3.frozen? ⟨w.heap.size, o, none⟩ = false := fro_later (by rw [World.size_alloc]; omega) hb3 (fro_alloc hl0 _ f0); clear z0 z1 z2 f0))
        have hb := HB.out
        refine bodyPost_ret (v := .tuple #[V3 0 0 0, .bool false]) (by simp [results, Try.results41, go_sem, *]) rfl ?_
        exact ⟨by rw [HR.out], by (repeat' (first | (with_reducible exact Below.refl _ _) | (with_reducible refine bstep (by with_reducible assumption) ?_) | (with_reducible refine Below.alloc ?_ ?_ _) | (with_reducible refine Below.drew ?_) | (with_reducible refine below_drewN ?_ _) | (with_reducible refine Below.setCell ?_ ?_ _) | go_size))⟩
      obtain rfl : j = n := by omega
      have hA := HA.out rfl
      have hr := HR1.out rfl
      have HR := Lib.hid hr
      clear hr
      clear hlt HB f1
      have bX : ∀ j', j' < j → ∀ c, c < 3 → -65536 ≤ X (j' * 3 + c) ∧ X (j' * 3 + c) ≤ 65536 := by
        intro j' hj' c hc
        have := HI.out j' hj'
        rw [inB_iff (by omega) (by omega)] at this
        match c, hc with
        | 0, _ => exact this.1
        | 1, _ => exact this.2.1
        | 2, _ => exact this.2.2
      have ⟨u1, u2⟩ := alls_le hW j (Nat.le_refl _)
      have t0 := sums_le (fun j' hj' => bX j' hj' 0 (by omega)) hW j (Nat.le_refl _)
      have t1 := sums_le (fun j' hj' => bX j' hj' 1 (by omega)) hW j (Nat.le_refl _)
      have t2 := sums_le (fun j' hj' => bX j' hj' 2 (by omega)) hW j (Nat.le_refl _)
      have R0 := fun w => round_any (sums X Wt 0 j) (alls Wt j) w hA (by omega) (by omega) (by omega)
      have R1 := fun w => round_any (sums X Wt 1 j) (alls Wt j) w hA (by omega) (by omega) (by omega)
      have R2 := fun w => round_any (sums X Wt 2 j) (alls Wt j) w hA (by omega) (by omega) (by omega)
      rw [E0.out] at R0
      rw [E1.out] at R1
      rw [E2.out] at R2
      have R0 := Lib.hid R0
      have R1 := Lib.hid R1
      have R2 := Lib.hid R2
      have hl0 : w.heap.size < wr.heap.size := World.block_lt_of_cell? wr ⟨w.heap.size, 0, none⟩ z0
      have HB := Lib.hid hb
      clear t0 t1 t2 u1 u2 bX hW hA hb
      have x0 := cellv_of z0
      have x1 := cellv_of z1
      have x2 := cellv_of z2
      have ns : w.heap.size + 1 ≠ w.heap.size := by omega
      have ns' : w.heap.size ≠ w.heap.size + 1 := by omega
      clear z0 z1 z2
      go_wp2_with fail
      go_region_held3 (fun w' => w'.cell? ⟨w.heap.size + 1, 0, none⟩ = some (.int .i64 (sums X Wt 0 j)) ∧ w'.cell? ⟨w.heap.size + 1, 1, none⟩ = some (.int .i64 (sums X Wt 1 j)) ∧ w'.cell? ⟨w.heap.size + 1, 2, none⟩ = some (.int .i64 (sums X Wt 2 j)) ∧
          w'.cell? ⟨w.heap.size, 0, none⟩ = some (cellv w' w.heap.size 0) ∧ w'.cell? ⟨w.heap.size, 1, none⟩ = some (cellv w' w.heap.size 1) ∧ w'.cell? ⟨w.heap.size, 2, none⟩ = some (cellv w' w.heap.size 2) ∧ (∀ o, w'.frozen? ⟨w.heap.size, o, none⟩ = false) ∧ w.heap.size < w'.heap.size)
        (((first | (go_split_ands; skip) | skip); (repeat' apply And.intro) <;> (first | assumption | (with_reducible exact cell_later (by assumption) (by assumption)) | (with_reducible exact cellv_later (by assumption) (by assumption)) | (with_reducible exact cellv_0 (by assumption)) | (with_reducible exact cellv_1 (by assumption)) | (with_reducible exact cellv_2 (by assumption)) | (with_reducible exact fro_step (by assumption) (by assumption) (by omega)) | (with_reducible exact set3_far ns' (by assumption)) | omega | (simp [*, go_sem]; done) | (intro o; simp [*]; done))))
        (first
          | (go_at_call 43; ((with_reducible refine (R0.out _).mono ?_); rintro e v1 ⟨rfl, hb1⟩; have hs1 := hb1.size))
          | (go_at_call 43; ((with_reducible refine (R1.out _).mono ?_); rintro e v2 ⟨rfl, hb2⟩; have hs2 := hb2.size))
          | (go_at_call 43; ((with_reducible refine (R2.out _).mono ?_); rintro e v3 ⟨rfl, hb3⟩; have hs3 := hb3.size)))
      all_goals
        have hb := HB.out
        go_wp2_with fail
        have y0 := cell_later hb3 (cell_later hb2 (cell_later hb1 (cell_drew x0)))
        have y1 := cell_later hb3 (cell_later hb2 (cell_later hb1 (cell_drew x1)))
        have y2 := cell_later hb3 (cell_later hb2 (cell_later hb1 (cell_drew x2)))
        have k0 := set3_0 (u := .int .i64 r0) (v := .int .i64 r1) (x := .int .i64 r2) y0
        have k1 := set3_1 (u := .int .i64 r0) (v := .int .i64 r1) (x := .int .i64 r2) y1
        have k2 := set3_2 (u := .int .i64 r0) (v := .int .i64 r1) (x := .int .i64 r2) y2
        refine bodyPost_ret (v := .tuple #[V3 r0 r1 r2, .bool true]) (by simp [results, Try.results41, go_sem, k0, k1, k2]) rfl ?_
        exact ⟨by rw [HR.out], by (repeat' (first | (with_reducible exact Below.refl _ _) | (with_reducible refine bstep (by with_reducible assumption) ?_) | (with_reducible refine Below.alloc ?_ ?_ _) | (with_reducible refine Below.drew ?_) | (with_reducible refine below_drewN ?_ _) | (with_reducible refine Below.setCell ?_ ?_ _) | go_size))⟩
end Go.Proofs.Ytdemcleibpgglaa
