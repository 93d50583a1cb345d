/- The law on a patch's sides, walked: for all points and numbers of 64 bits it answers true. -/
import Derived.Test.YtdemcleibpgglaaCorners
namespace Go.Proofs.Ytdemcleibpgglaa
open Go.RowKit
set_option maxRecDepth 100000
set_option linter.unusedSimpArgs false
set_option linter.unusedVariables false
theorem rnd_side {S T n m : Int} (hn : 1 ≤ n) (hm : 1 ≤ m) (e : T = m * m * m * S) : rnd T (n * n * n * (m * m * m)) = rnd S (n * n * n) := by
  rw [e, Int.mul_comm (n * n * n)]
  exact rnd_scale _ _ _ (by have := cube_pos hn; omega) (by have := cube_pos hm; omega)
theorem rnd_side' {S T n m : Int} (hn : 1 ≤ n) (hm : 1 ≤ m) (e : T = m * m * m * S) : rnd T (m * m * m * (n * n * n)) = rnd S (n * n * n) := by
  rw [e]
  exact rnd_scale _ _ _ (by have := cube_pos hn; omega) (by have := cube_pos hm; omega)
theorem okC_row {X : Nat → Int} (h : okP16 X 16 = true) {i n : Int} (ht : there i n = true) : okC (X 0) (X 1) (X 2) (X 3) (X 4) (X 5) (X 6) (X 7) (X 8) (X 9) (X 10) (X 11) i n = true ∧ okC (X 9) (X 10) (X 11) (X 21) (X 22) (X 23) (X 33) (X 34) (X 35) (X 45) (X 46) (X 47) i n = true ∧ okC (X 45) (X 46) (X 47) (X 42) (X 43) (X 44) (X 39) (X 40) (X 41) (X 36) (X 37) (X 38) i n = true ∧ okC (X 36) (X 37) (X 38) (X 24) (X 25) (X 26) (X 12) (X 13) (X 14) (X 0) (X 1) (X 2) i n = true := by
  have y := okP16_yes h
  have y0 : inB (X 0) (X 1) (X 2) 65536 = true := y 0 (by omega)
  have y1 : inB (X 3) (X 4) (X 5) 65536 = true := y 1 (by omega)
  have y2 : inB (X 6) (X 7) (X 8) 65536 = true := y 2 (by omega)
  have y3 : inB (X 9) (X 10) (X 11) 65536 = true := y 3 (by omega)
  have y4 : inB (X 12) (X 13) (X 14) 65536 = true := y 4 (by omega)
  have y5 : inB (X 15) (X 16) (X 17) 65536 = true := y 5 (by omega)
  have y6 : inB (X 18) (X 19) (X 20) 65536 = true := y 6 (by omega)
  have y7 : inB (X 21) (X 22) (X 23) 65536 = true := y 7 (by omega)
  have y8 : inB (X 24) (X 25) (X 26) 65536 = true := y 8 (by omega)
  have y9 : inB (X 27) (X 28) (X 29) 65536 = true := y 9 (by omega)
  have y10 : inB (X 30) (X 31) (X 32) 65536 = true := y 10 (by omega)
  have y11 : inB (X 33) (X 34) (X 35) 65536 = true := y 11 (by omega)
  have y12 : inB (X 36) (X 37) (X 38) 65536 = true := y 12 (by omega)
  have y13 : inB (X 39) (X 40) (X 41) 65536 = true := y 13 (by omega)
  have y14 : inB (X 42) (X 43) (X 44) 65536 = true := y 14 (by omega)
  have y15 : inB (X 45) (X 46) (X 47) 65536 = true := y 15 (by omega)
  simp only [okC, ht, y0, y1, y2, y3, y4, y5, y6, y7, y8, y9, y10, y11, y12, y13, y14, y15, Bool.and_self, and_self]
theorem ptv_side0 (X : Nat → Int) (c : Nat) (i n m : Int) (hn : 1 ≤ n) (hm : 1 ≤ m) : ptv X c i n 0 m = cubv (X (0 + c)) (X (3 + c)) (X (6 + c)) (X (9 + c)) i n := by
  unfold ptv cubv
  refine rnd_side hn hm ?_
  simp only [sums, wtp, Nat.reduceMod, Nat.reduceDiv, Nat.zero_mod, Nat.zero_div, Nat.reduceMul, Nat.zero_mul, Nat.one_mul]
  simp only [wts]
  have z0 : wt0 0 m = m * m * m := by simp [wt0]
  have z1 : wt1 0 m = 0 := by simp [wt1]
  have z2 : wt2 0 m = 0 := by simp [wt2]
  have z3 : wt3 0 m = 0 := by simp [wt3]
  rw [z0, z1, z2, z3]
  simp only [Int.mul_zero, Int.zero_mul, Int.add_zero, Int.zero_add, Nat.zero_add]
  grind
theorem ptv_side1 (X : Nat → Int) (c : Nat) (i n m : Int) (hn : 1 ≤ n) (hm : 1 ≤ m) : ptv X c m m i n = cubv (X (9 + c)) (X (21 + c)) (X (33 + c)) (X (45 + c)) i n := by
  unfold ptv cubv
  refine rnd_side' hn hm ?_
  simp only [sums, wtp, Nat.reduceMod, Nat.reduceDiv, Nat.zero_mod, Nat.zero_div, Nat.reduceMul, Nat.zero_mul, Nat.one_mul]
  simp only [wts]
  have z0 : wt0 m m = 0 := by simp [wt0]
  have z1 : wt1 m m = 0 := by simp [wt1]
  have z2 : wt2 m m = 0 := by simp [wt2]
  have z3 : wt3 m m = m * m * m := by simp [wt3]
  rw [z0, z1, z2, z3]
  simp only [Int.mul_zero, Int.zero_mul, Int.add_zero, Int.zero_add, Nat.zero_add]
  grind
theorem ptv_side2 (X : Nat → Int) (c : Nat) (i n m : Int) (hn : 1 ≤ n) (hm : 1 ≤ m) : ptv X c (n - i) n m m = cubv (X (45 + c)) (X (42 + c)) (X (39 + c)) (X (36 + c)) i n := by
  unfold ptv cubv
  obtain ⟨e0, e1, e2, e3⟩ := wt_back i n
  refine rnd_side hn hm ?_
  simp only [sums, wtp, Nat.reduceMod, Nat.reduceDiv, Nat.zero_mod, Nat.zero_div, Nat.reduceMul, Nat.zero_mul, Nat.one_mul]
  simp only [wts, e0, e1, e2, e3]
  have z0 : wt0 m m = 0 := by simp [wt0]
  have z1 : wt1 m m = 0 := by simp [wt1]
  have z2 : wt2 m m = 0 := by simp [wt2]
  have z3 : wt3 m m = m * m * m := by simp [wt3]
  rw [z0, z1, z2, z3]
  simp only [Int.mul_zero, Int.zero_mul, Int.add_zero, Int.zero_add, Nat.zero_add]
  grind
theorem ptv_side3 (X : Nat → Int) (c : Nat) (i n m : Int) (hn : 1 ≤ n) (hm : 1 ≤ m) : ptv X c 0 m (n - i) n = cubv (X (36 + c)) (X (24 + c)) (X (12 + c)) (X (0 + c)) i n := by
  unfold ptv cubv
  obtain ⟨e0, e1, e2, e3⟩ := wt_back i n
  refine rnd_side' hn hm ?_
  simp only [sums, wtp, Nat.reduceMod, Nat.reduceDiv, Nat.zero_mod, Nat.zero_div, Nat.reduceMul, Nat.zero_mul, Nat.one_mul]
  simp only [wts, e0, e1, e2, e3]
  have z0 : wt0 0 m = m * m * m := by simp [wt0]
  have z1 : wt1 0 m = 0 := by simp [wt1]
  have z2 : wt2 0 m = 0 := by simp [wt2]
  have z3 : wt3 0 m = 0 := by simp [wt3]
  rw [z0, z1, z2, z3]
  simp only [Int.mul_zero, Int.zero_mul, Int.add_zero, Int.zero_add, Nat.zero_add]
  grind
theorem side_facts0 (cs : Array Value) (X : Nat → Int) (hX : Is48 cs X) (i n m : Int) (hi : I64 i) (hn : I64 n) : ∃ (ok is : Bool) (p q r p2 q2 r2 : Int),
    (∀ w, Calls Try.prog 17 #[.agg (C12 (X 0) (X 1) (X 2) (X 3) (X 4) (X 5) (X 6) (X 7) (X 8) (X 9) (X 10) (X 11)), .int .i64 i, .int .i64 n] w fun e w' => e = .returned (.tuple #[V3 p q r, .bool ok]) ∧ Below w.heap.size w w') ∧
    (∀ w, Calls Try.prog 25 #[.agg cs, .int .i64 i, .int .i64 n, .int .i64 0, .int .i64 m] w fun e w' => e = .returned (.tuple #[V3 p2 q2 r2, .bool is]) ∧ Below w.heap.size w w') ∧
    (is = true → ok = true ∧ p = p2 ∧ q = q2 ∧ r = r2) := by
  refine ⟨_, _, _, _, _, _, _, _, cubic_is (X 0) (X 1) (X 2) (X 3) (X 4) (X 5) (X 6) (X 7) (X 8) (X 9) (X 10) (X 11) i n _ _ _ _ rfl rfl rfl rfl, point_is cs X hX i n 0 m _ _ _ _ rfl rfl rfl rfl, fun h => ?_⟩
  rw [h]
  simp only [okPt, Bool.and_eq_true] at h
  obtain ⟨⟨h1, h2⟩, h3⟩ := h
  have t := h1
  have tm := h2
  have ok := okC_row h3 t
  have t' := there_iff.1 t
  have tm' := there_iff.1 tm
  rw [ok.1]
  simp only [cub, ptF, if_true]
  refine ⟨trivial, ?_, ?_, ?_⟩
  · exact (ptv_side0 X 0 i n m t'.1 tm'.1).symm
  · exact (ptv_side0 X 1 i n m t'.1 tm'.1).symm
  · exact (ptv_side0 X 2 i n m t'.1 tm'.1).symm
theorem side_facts1 (cs : Array Value) (X : Nat → Int) (hX : Is48 cs X) (i n m : Int) (hi : I64 i) (hn : I64 n) : ∃ (ok is : Bool) (p q r p2 q2 r2 : Int),
    (∀ w, Calls Try.prog 17 #[.agg (C12 (X 9) (X 10) (X 11) (X 21) (X 22) (X 23) (X 33) (X 34) (X 35) (X 45) (X 46) (X 47)), .int .i64 i, .int .i64 n] w fun e w' => e = .returned (.tuple #[V3 p q r, .bool ok]) ∧ Below w.heap.size w w') ∧
    (∀ w, Calls Try.prog 25 #[.agg cs, .int .i64 m, .int .i64 m, .int .i64 i, .int .i64 n] w fun e w' => e = .returned (.tuple #[V3 p2 q2 r2, .bool is]) ∧ Below w.heap.size w w') ∧
    (is = true → ok = true ∧ p = p2 ∧ q = q2 ∧ r = r2) := by
  refine ⟨_, _, _, _, _, _, _, _, cubic_is (X 9) (X 10) (X 11) (X 21) (X 22) (X 23) (X 33) (X 34) (X 35) (X 45) (X 46) (X 47) i n _ _ _ _ rfl rfl rfl rfl, point_is cs X hX m m i n _ _ _ _ rfl rfl rfl rfl, fun h => ?_⟩
  rw [h]
  simp only [okPt, Bool.and_eq_true] at h
  obtain ⟨⟨h1, h2⟩, h3⟩ := h
  have t := h2
  have tm := h1
  have ok := okC_row h3 t
  have t' := there_iff.1 t
  have tm' := there_iff.1 tm
  rw [ok.2.1]
  simp only [cub, ptF, if_true]
  refine ⟨trivial, ?_, ?_, ?_⟩
  · exact (ptv_side1 X 0 i n m t'.1 tm'.1).symm
  · exact (ptv_side1 X 1 i n m t'.1 tm'.1).symm
  · exact (ptv_side1 X 2 i n m t'.1 tm'.1).symm
theorem side_facts2 (cs : Array Value) (X : Nat → Int) (hX : Is48 cs X) (i n m : Int) (hi : I64 i) (hn : I64 n) : ∃ (ok is : Bool) (p q r p2 q2 r2 : Int),
    (∀ w, Calls Try.prog 17 #[.agg (C12 (X 45) (X 46) (X 47) (X 42) (X 43) (X 44) (X 39) (X 40) (X 41) (X 36) (X 37) (X 38)), .int .i64 i, .int .i64 n] w fun e w' => e = .returned (.tuple #[V3 p q r, .bool ok]) ∧ Below w.heap.size w w') ∧
    (∀ w, Calls Try.prog 25 #[.agg cs, .int .i64 (wrap64 (n - i)), .int .i64 n, .int .i64 m, .int .i64 m] w fun e w' => e = .returned (.tuple #[V3 p2 q2 r2, .bool is]) ∧ Below w.heap.size w w') ∧
    (is = true → ok = true ∧ p = p2 ∧ q = q2 ∧ r = r2) := by
  refine ⟨_, _, _, _, _, _, _, _, cubic_is (X 45) (X 46) (X 47) (X 42) (X 43) (X 44) (X 39) (X 40) (X 41) (X 36) (X 37) (X 38) i n _ _ _ _ rfl rfl rfl rfl, point_is cs X hX (wrap64 (n - i)) n m m _ _ _ _ rfl rfl rfl rfl, fun h => ?_⟩
  rw [h]
  simp only [okPt, Bool.and_eq_true] at h
  obtain ⟨⟨h1, h2⟩, h3⟩ := h
  have tm := h2
  have t : there i n = true := by rw [← there_back hi hn]; exact h1
  have ok := okC_row h3 t
  have t' := there_iff.1 t
  have tm' := there_iff.1 tm
  have e : wrap64 (n - i) = n - i := w64 (by omega) (by omega)
  rw [e]
  rw [ok.2.2.1]
  simp only [cub, ptF, if_true]
  refine ⟨trivial, ?_, ?_, ?_⟩
  · exact (ptv_side2 X 0 i n m t'.1 tm'.1).symm
  · exact (ptv_side2 X 1 i n m t'.1 tm'.1).symm
  · exact (ptv_side2 X 2 i n m t'.1 tm'.1).symm
theorem side_facts3 (cs : Array Value) (X : Nat → Int) (hX : Is48 cs X) (i n m : Int) (hi : I64 i) (hn : I64 n) : ∃ (ok is : Bool) (p q r p2 q2 r2 : Int),
    (∀ w, Calls Try.prog 17 #[.agg (C12 (X 36) (X 37) (X 38) (X 24) (X 25) (X 26) (X 12) (X 13) (X 14) (X 0) (X 1) (X 2)), .int .i64 i, .int .i64 n] w fun e w' => e = .returned (.tuple #[V3 p q r, .bool ok]) ∧ Below w.heap.size w w') ∧
    (∀ w, Calls Try.prog 25 #[.agg cs, .int .i64 0, .int .i64 m, .int .i64 (wrap64 (n - i)), .int .i64 n] w fun e w' => e = .returned (.tuple #[V3 p2 q2 r2, .bool is]) ∧ Below w.heap.size w w') ∧
    (is = true → ok = true ∧ p = p2 ∧ q = q2 ∧ r = r2) := by
  refine ⟨_, _, _, _, _, _, _, _, cubic_is (X 36) (X 37) (X 38) (X 24) (X 25) (X 26) (X 12) (X 13) (X 14) (X 0) (X 1) (X 2) i n _ _ _ _ rfl rfl rfl rfl, point_is cs X hX 0 m (wrap64 (n - i)) n _ _ _ _ rfl rfl rfl rfl, fun h => ?_⟩
  rw [h]
  simp only [okPt, Bool.and_eq_true] at h
  obtain ⟨⟨h1, h2⟩, h3⟩ := h
  have tm := h1
  have t : there i n = true := by rw [← there_back hi hn]; exact h2
  have ok := okC_row h3 t
  have t' := there_iff.1 t
  have tm' := there_iff.1 tm
  have e : wrap64 (n - i) = n - i := w64 (by omega) (by omega)
  rw [e]
  rw [ok.2.2.2]
  simp only [cub, ptF, if_true]
  refine ⟨trivial, ?_, ?_, ?_⟩
  · exact (ptv_side3 X 0 i n m t'.1 tm'.1).symm
  · exact (ptv_side3 X 1 i n m t'.1 tm'.1).symm
  · exact (ptv_side3 X 2 i n m t'.1 tm'.1).symm
def SIn (g B : Nat) (cs : Array Value) (w : World) (k : Nat) (i : Value) (wr : World) : Prop :=
  ((k = 4 ∧ i = .int .i64 0 ∧ 0 ≤ g) ∨ (k = 3 ∧ i = .int .i64 1 ∧ 1 ≤ g) ∨ (k = 2 ∧ i = .int .i64 2 ∧ 2 ≤ g) ∨ (k = 1 ∧ i = .int .i64 3 ∧ 3 ≤ g) ∨ (k = 0 ∧ i = .int .i64 4 ∧ 4 ≤ g)) ∧ (∀ o, wr.cell? ⟨B, o, none⟩ = cs[o]?) ∧ Below B w wr
def SOut (B : Nat) (cs : Array Value) (w : World) (k : Nat) (i : Value) (wr : World) : Prop :=
  ∃ j : Nat, 1 ≤ j ∧ j ≤ 4 ∧ k = 4 - j ∧ i = .int .i64 (j : Int) ∧ (∀ o, wr.cell? ⟨B, o, none⟩ = cs[o]?) ∧ Below B w wr
set_option maxHeartbeats 8000000 in
theorem sides_flat (cs : Array Value) (X : Nat → Int) (hX : Is48 cs X) (i n : Int) (hi : I64 i) (hn : I64 n) (w : World) :
    Calls Try.prog 11 #[.agg cs, .int .i64 i, .int .i64 n] w fun e w' => e = .returned (.bool true) ∧ Below w.heap.size w w' := by
  have R0 := Lib.hid (row_0 cs X hX)
  have S0 := Lib.hid (fun m => side_facts0 cs X hX i n m hi hn)
  have R1 := Lib.hid (row_1 cs X hX)
  have S1 := Lib.hid (fun m => side_facts1 cs X hX i n m hi hn)
  have R2 := Lib.hid (row_2 cs X hX)
  have S2 := Lib.hid (fun m => side_facts2 cs X hX i n m hi hn)
  have R3 := Lib.hid (row_3 cs X hX)
  have S3 := Lib.hid (fun m => side_facts3 cs X hX i n m hi hn)
  obtain ⟨hs48, hx⟩ := hX
  have hs0 : 0 < cs.size := by omega
  clear hx hi hn
  go_enter Try.func11, Try.ntmps11
  go_wp2_with (go_at_call 16; ((with_reducible refine (alive11_any _).mono ?_); rintro e w1 ⟨rfl, hb1⟩; have A1 := Lib.hid (blk_later hs0 hb1 (by (repeat (first | (with_reducible assumption) | (focus ((with_reducible refine new_at ?_ _ _); (repeat (first | (with_reducible rfl) | (with_reducible refine sz1 ?_))); done)) | (with_reducible refine blk_alloc hs0 _ ?_) | (with_reducible refine blk_drew ?_)))) : ∀ o, w1.cell? ⟨w.heap.size, o, none⟩ = cs[o]?); have hs1 : w.heap.size < w1.heap.size := blk_lt hs0 A1.out))
  go_loopg [7] 3 (fun k i wr => SOut w.heap.size cs w k i wr)
  case atStart => exact ⟨1, by omega, by omega, by omega, rfl, A1.out, by (repeat' (first | (with_reducible exact Below.refl _ _) | (with_reducible refine bstep (by with_reducible assumption) ?_) | (with_reducible refine Below.alloc ?_ ?_ _) | (with_reducible refine Below.drew ?_) | (with_reducible refine below_drewN ?_ _) | (with_reducible refine Below.setCell ?_ ?_ _) | go_size))⟩
  case round =>
    obtain ⟨j, hj1, hj4, rfl, rfl, hp, hB⟩ := hrel
    have HB := Lib.hid hB
    have P0 := Lib.hid hp
    have l0 : w.heap.size < wr.heap.size := blk_lt hs0 hp
    clear hB hp A1
    by_cases hj : j ≤ 3
    · have hj' : (j : Int) ≤ 3 := by omega
      go_wp2_with fail
      go_loopg [8] 4 (fun k i wr => SIn 4 w.heap.size cs w k i wr)
      case atStart => exact ⟨.inl ⟨rfl, rfl, by omega⟩, P0.out, HB.out⟩
      case round =>
        obtain ⟨hk, hp, hB⟩ := hrel
        have HBX := Lib.hid hB
        have P1 := Lib.hid hp
        have l1 : w.heap.size < wr.heap.size := blk_lt hs0 hp
        clear hB hp P0 l0
        rcases hk with ⟨rfl, rfl, hg⟩ | ⟨rfl, rfl, hg⟩ | ⟨rfl, rfl, hg⟩ | ⟨rfl, rfl, hg⟩ | ⟨rfl, rfl, hg⟩
        · obtain ⟨ok, is, p, q, r, p2, q2, r2, K, L, H⟩ := S0.out (j : Int)
          have K := Lib.hid K
          have L := Lib.hid L
          have H := Lib.hid H
          go_wp2_with (first
            | (((refine (load_arr rfl _ rfl w.heap.size rfl cs hs48 ?_ ?_)); (focus ((repeat (first | (with_reducible exact Hid.out (by assumption)) | (with_reducible refine blk_alloc hs0 _ ?_) | (with_reducible refine blk_drew ?_)))))))
            | (go_at_call 30; ((with_reducible refine (R0.out _).mono ?_); rintro e v1 ⟨rfl, gb1⟩; have P2 := Lib.hid (blk_later hs0 gb1 P1.out); have t1 : w.heap.size < v1.heap.size := blk_lt hs0 P2.out; clear P1))
            | (go_at_call 17; ((with_reducible refine (K.out _).mono ?_); rintro e v2 ⟨rfl, gb2⟩; have P3 := Lib.hid (blk_later hs0 gb2 P2.out); have t2 : w.heap.size < v2.heap.size := blk_lt hs0 P3.out; clear P2))
            | (go_at_call 25; ((with_reducible refine (L.out _).mono ?_); rintro e v3 ⟨rfl, gb3⟩; have P4 := Lib.hid (blk_later hs0 gb3 (blk_alloc hs0 _ (blk_alloc hs0 _ P3.out))); have t3 : w.heap.size < v3.heap.size := blk_lt hs0 P4.out; have A4 : ∀ o, v3.cell? ⟨v2.heap.size, o, none⟩ = (#[.int .i64 p, .int .i64 q, .int .i64 r] : Array Value)[o]? := blk_later (by simp) gb3 (by (repeat (first | (with_reducible assumption) | (focus ((with_reducible refine new_at ?_ _ _); (repeat (first | (with_reducible rfl) | (with_reducible refine sz1 ?_))); done)) | (with_reducible refine blk_alloc (by simp) _ ?_) | (with_reducible refine blk_drew ?_)))); have Z4 : ∀ o, v3.cell? ⟨v2.heap.size + 1, o, none⟩ = (#[.int .i64 0, .int .i64 0, .int .i64 0] : Array Value)[o]? := blk_later (by simp) gb3 (by (repeat (first | (with_reducible assumption) | (focus ((with_reducible refine new_at ?_ _ _); (repeat (first | (with_reducible rfl) | (with_reducible refine sz1 ?_))); done)) | (with_reducible refine blk_alloc (by simp) _ ?_) | (with_reducible refine blk_drew ?_)))); have F4 : ∀ o, v3.frozen? ⟨v2.heap.size + 1, o, none⟩ = false := fro_call gb3 (by (repeat (first | (with_reducible assumption) | (focus ((with_reducible refine fro_new ?_ _ _); (repeat (first | (with_reducible rfl) | (with_reducible refine sz1 ?_))); done)) | ((with_reducible refine fro_more ?_ _ ?_); (repeat (first | (with_reducible assumption) | (focus ((with_reducible refine lt_new ?_); (repeat (first | (with_reducible rfl) | (with_reducible refine sz1 ?_))); done)) | (with_reducible refine lt_here ?_))))))) (by (repeat (first | (with_reducible assumption) | (focus ((with_reducible refine lt_new ?_); (repeat (first | (with_reducible rfl) | (with_reducible refine sz1 ?_))); done)) | (with_reducible refine lt_here ?_)))); have t4 : v2.heap.size + 1 < v3.heap.size := blk_lt (by simp) Z4; have t5 : v2.heap.size < v3.heap.size := (by omega); clear P3)))
          all_goals
            go_roundg 3
            case measure => omega
            case rel =>
              have HB' := HBX.out
              have ne : v2.heap.size + 1 ≠ w.heap.size := by omega
              exact ⟨.inr (.inl ⟨rfl, by simp, by omega⟩), st3_far ne P4.out, by (repeat' (first | (with_reducible exact Below.refl _ _) | (with_reducible refine bstep (by with_reducible assumption) ?_) | (with_reducible refine Below.alloc ?_ ?_ _) | (with_reducible refine Below.drew ?_) | (with_reducible refine below_drewN ?_ _) | (with_reducible refine Below.setCell ?_ ?_ _) | go_size))⟩
        · obtain ⟨ok, is, p, q, r, p2, q2, r2, K, L, H⟩ := S1.out (j : Int)
          have K := Lib.hid K
          have L := Lib.hid L
          have H := Lib.hid H
          go_wp2_with (first
            | (((refine (load_arr rfl _ rfl w.heap.size rfl cs hs48 ?_ ?_)); (focus ((repeat (first | (with_reducible exact Hid.out (by assumption)) | (with_reducible refine blk_alloc hs0 _ ?_) | (with_reducible refine blk_drew ?_)))))))
            | (go_at_call 30; ((with_reducible refine (R1.out _).mono ?_); rintro e v1 ⟨rfl, gb1⟩; have P2 := Lib.hid (blk_later hs0 gb1 P1.out); have t1 : w.heap.size < v1.heap.size := blk_lt hs0 P2.out; clear P1))
            | (go_at_call 17; ((with_reducible refine (K.out _).mono ?_); rintro e v2 ⟨rfl, gb2⟩; have P3 := Lib.hid (blk_later hs0 gb2 P2.out); have t2 : w.heap.size < v2.heap.size := blk_lt hs0 P3.out; clear P2))
            | (go_at_call 25; ((with_reducible refine (L.out _).mono ?_); rintro e v3 ⟨rfl, gb3⟩; have P4 := Lib.hid (blk_later hs0 gb3 (blk_alloc hs0 _ (blk_alloc hs0 _ P3.out))); have t3 : w.heap.size < v3.heap.size := blk_lt hs0 P4.out; have A4 : ∀ o, v3.cell? ⟨v2.heap.size, o, none⟩ = (#[.int .i64 p, .int .i64 q, .int .i64 r] : Array Value)[o]? := blk_later (by simp) gb3 (by (repeat (first | (with_reducible assumption) | (focus ((with_reducible refine new_at ?_ _ _); (repeat (first | (with_reducible rfl) | (with_reducible refine sz1 ?_))); done)) | (with_reducible refine blk_alloc (by simp) _ ?_) | (with_reducible refine blk_drew ?_)))); have Z4 : ∀ o, v3.cell? ⟨v2.heap.size + 1, o, none⟩ = (#[.int .i64 0, .int .i64 0, .int .i64 0] : Array Value)[o]? := blk_later (by simp) gb3 (by (repeat (first | (with_reducible assumption) | (focus ((with_reducible refine new_at ?_ _ _); (repeat (first | (with_reducible rfl) | (with_reducible refine sz1 ?_))); done)) | (with_reducible refine blk_alloc (by simp) _ ?_) | (with_reducible refine blk_drew ?_)))); have F4 : ∀ o, v3.frozen? ⟨v2.heap.size + 1, o, none⟩ = false := fro_call gb3 (by (repeat (first | (with_reducible assumption) | (focus ((with_reducible refine fro_new ?_ _ _); (repeat (first | (with_reducible rfl) | (with_reducible refine sz1 ?_))); done)) | ((with_reducible refine fro_more ?_ _ ?_); (repeat (first | (with_reducible assumption) | (focus ((with_reducible refine lt_new ?_); (repeat (first | (with_reducible rfl) | (with_reducible refine sz1 ?_))); done)) | (with_reducible refine lt_here ?_))))))) (by (repeat (first | (with_reducible assumption) | (focus ((with_reducible refine lt_new ?_); (repeat (first | (with_reducible rfl) | (with_reducible refine sz1 ?_))); done)) | (with_reducible refine lt_here ?_)))); have t4 : v2.heap.size + 1 < v3.heap.size := blk_lt (by simp) Z4; have t5 : v2.heap.size < v3.heap.size := (by omega); clear P3)))
          all_goals
            go_roundg 2
            case measure => omega
            case rel =>
              have HB' := HBX.out
              have ne : v2.heap.size + 1 ≠ w.heap.size := by omega
              exact ⟨.inr (.inr (.inl ⟨rfl, by simp, by omega⟩)), st3_far ne P4.out, by (repeat' (first | (with_reducible exact Below.refl _ _) | (with_reducible refine bstep (by with_reducible assumption) ?_) | (with_reducible refine Below.alloc ?_ ?_ _) | (with_reducible refine Below.drew ?_) | (with_reducible refine below_drewN ?_ _) | (with_reducible refine Below.setCell ?_ ?_ _) | go_size))⟩
        · obtain ⟨ok, is, p, q, r, p2, q2, r2, K, L, H⟩ := S2.out (j : Int)
          have K := Lib.hid K
          have L := Lib.hid L
          have H := Lib.hid H
          go_wp2_with (first
            | (((refine (load_arr rfl _ rfl w.heap.size rfl cs hs48 ?_ ?_)); (focus ((repeat (first | (with_reducible exact Hid.out (by assumption)) | (with_reducible refine blk_alloc hs0 _ ?_) | (with_reducible refine blk_drew ?_)))))))
            | (go_at_call 30; ((with_reducible refine (R2.out _).mono ?_); rintro e v1 ⟨rfl, gb1⟩; have P2 := Lib.hid (blk_later hs0 gb1 P1.out); have t1 : w.heap.size < v1.heap.size := blk_lt hs0 P2.out; clear P1))
            | (go_at_call 17; ((with_reducible refine (K.out _).mono ?_); rintro e v2 ⟨rfl, gb2⟩; have P3 := Lib.hid (blk_later hs0 gb2 P2.out); have t2 : w.heap.size < v2.heap.size := blk_lt hs0 P3.out; clear P2))
            | (go_at_call 25; ((with_reducible refine (L.out _).mono ?_); rintro e v3 ⟨rfl, gb3⟩; have P4 := Lib.hid (blk_later hs0 gb3 (blk_alloc hs0 _ (blk_alloc hs0 _ P3.out))); have t3 : w.heap.size < v3.heap.size := blk_lt hs0 P4.out; have A4 : ∀ o, v3.cell? ⟨v2.heap.size, o, none⟩ = (#[.int .i64 p, .int .i64 q, .int .i64 r] : Array Value)[o]? := blk_later (by simp) gb3 (by (repeat (first | (with_reducible assumption) | (focus ((with_reducible refine new_at ?_ _ _); (repeat (first | (with_reducible rfl) | (with_reducible refine sz1 ?_))); done)) | (with_reducible refine blk_alloc (by simp) _ ?_) | (with_reducible refine blk_drew ?_)))); have Z4 : ∀ o, v3.cell? ⟨v2.heap.size + 1, o, none⟩ = (#[.int .i64 0, .int .i64 0, .int .i64 0] : Array Value)[o]? := blk_later (by simp) gb3 (by (repeat (first | (with_reducible assumption) | (focus ((with_reducible refine new_at ?_ _ _); (repeat (first | (with_reducible rfl) | (with_reducible refine sz1 ?_))); done)) | (with_reducible refine blk_alloc (by simp) _ ?_) | (with_reducible refine blk_drew ?_)))); have F4 : ∀ o, v3.frozen? ⟨v2.heap.size + 1, o, none⟩ = false := fro_call gb3 (by (repeat (first | (with_reducible assumption) | (focus ((with_reducible refine fro_new ?_ _ _); (repeat (first | (with_reducible rfl) | (with_reducible refine sz1 ?_))); done)) | ((with_reducible refine fro_more ?_ _ ?_); (repeat (first | (with_reducible assumption) | (focus ((with_reducible refine lt_new ?_); (repeat (first | (with_reducible rfl) | (with_reducible refine sz1 ?_))); done)) | (with_reducible refine lt_here ?_))))))) (by (repeat (first | (with_reducible assumption) | (focus ((with_reducible refine lt_new ?_); (repeat (first | (with_reducible rfl) | (with_reducible refine sz1 ?_))); done)) | (with_reducible refine lt_here ?_)))); have t4 : v2.heap.size + 1 < v3.heap.size := blk_lt (by simp) Z4; have t5 : v2.heap.size < v3.heap.size := (by omega); clear P3)))
          all_goals
            go_roundg 1
            case measure => omega
            case rel =>
              have HB' := HBX.out
              have ne : v2.heap.size + 1 ≠ w.heap.size := by omega
              exact ⟨.inr (.inr (.inr (.inl ⟨rfl, by simp, by omega⟩))), st3_far ne P4.out, by (repeat' (first | (with_reducible exact Below.refl _ _) | (with_reducible refine bstep (by with_reducible assumption) ?_) | (with_reducible refine Below.alloc ?_ ?_ _) | (with_reducible refine Below.drew ?_) | (with_reducible refine below_drewN ?_ _) | (with_reducible refine Below.setCell ?_ ?_ _) | go_size))⟩
        · obtain ⟨ok, is, p, q, r, p2, q2, r2, K, L, H⟩ := S3.out (j : Int)
          have K := Lib.hid K
          have L := Lib.hid L
          have H := Lib.hid H
          go_wp2_with (first
            | (((refine (load_arr rfl _ rfl w.heap.size rfl cs hs48 ?_ ?_)); (focus ((repeat (first | (with_reducible exact Hid.out (by assumption)) | (with_reducible refine blk_alloc hs0 _ ?_) | (with_reducible refine blk_drew ?_)))))))
            | (go_at_call 30; ((with_reducible refine (R3.out _).mono ?_); rintro e v1 ⟨rfl, gb1⟩; have P2 := Lib.hid (blk_later hs0 gb1 P1.out); have t1 : w.heap.size < v1.heap.size := blk_lt hs0 P2.out; clear P1))
            | (go_at_call 17; ((with_reducible refine (K.out _).mono ?_); rintro e v2 ⟨rfl, gb2⟩; have P3 := Lib.hid (blk_later hs0 gb2 P2.out); have t2 : w.heap.size < v2.heap.size := blk_lt hs0 P3.out; clear P2))
            | (go_at_call 25; ((with_reducible refine (L.out _).mono ?_); rintro e v3 ⟨rfl, gb3⟩; have P4 := Lib.hid (blk_later hs0 gb3 (blk_alloc hs0 _ (blk_alloc hs0 _ P3.out))); have t3 : w.heap.size < v3.heap.size := blk_lt hs0 P4.out; have A4 : ∀ o, v3.cell? ⟨v2.heap.size, o, none⟩ = (#[.int .i64 p, .int .i64 q, .int .i64 r] : Array Value)[o]? := blk_later (by simp) gb3 (by (repeat (first | (with_reducible assumption) | (focus ((with_reducible refine new_at ?_ _ _); (repeat (first | (with_reducible rfl) | (with_reducible refine sz1 ?_))); done)) | (with_reducible refine blk_alloc (by simp) _ ?_) | (with_reducible refine blk_drew ?_)))); have Z4 : ∀ o, v3.cell? ⟨v2.heap.size + 1, o, none⟩ = (#[.int .i64 0, .int .i64 0, .int .i64 0] : Array Value)[o]? := blk_later (by simp) gb3 (by (repeat (first | (with_reducible assumption) | (focus ((with_reducible refine new_at ?_ _ _); (repeat (first | (with_reducible rfl) | (with_reducible refine sz1 ?_))); done)) | (with_reducible refine blk_alloc (by simp) _ ?_) | (with_reducible refine blk_drew ?_)))); have F4 : ∀ o, v3.frozen? ⟨v2.heap.size + 1, o, none⟩ = false := fro_call gb3 (by (repeat (first | (with_reducible assumption) | (focus ((with_reducible refine fro_new ?_ _ _); (repeat (first | (with_reducible rfl) | (with_reducible refine sz1 ?_))); done)) | ((with_reducible refine fro_more ?_ _ ?_); (repeat (first | (with_reducible assumption) | (focus ((with_reducible refine lt_new ?_); (repeat (first | (with_reducible rfl) | (with_reducible refine sz1 ?_))); done)) | (with_reducible refine lt_here ?_))))))) (by (repeat (first | (with_reducible assumption) | (focus ((with_reducible refine lt_new ?_); (repeat (first | (with_reducible rfl) | (with_reducible refine sz1 ?_))); done)) | (with_reducible refine lt_here ?_)))); have t4 : v2.heap.size + 1 < v3.heap.size := blk_lt (by simp) Z4; have t5 : v2.heap.size < v3.heap.size := (by omega); clear P3)))
          all_goals
            go_roundg 0
            case measure => omega
            case rel =>
              have HB' := HBX.out
              have ne : v2.heap.size + 1 ≠ w.heap.size := by omega
              exact ⟨.inr (.inr (.inr (.inr (⟨rfl, by simp, by omega⟩)))), st3_far ne P4.out, by (repeat' (first | (with_reducible exact Below.refl _ _) | (with_reducible refine bstep (by with_reducible assumption) ?_) | (with_reducible refine Below.alloc ?_ ?_ _) | (with_reducible refine Below.drew ?_) | (with_reducible refine below_drewN ?_ _) | (with_reducible refine Below.setCell ?_ ?_ _) | go_size))⟩
        · go_wp2_with fail
          go_roundg (4 - (j + 1))
          case measure => omega
          case rel => exact ⟨j + 1, by omega, by omega, rfl, by first | (simp; done) | (simp; exact w64 (by omega) (by omega)), P1.out, HBX.out⟩
    · have hj' : ¬ (j : Int) ≤ 3 := by omega
      have HB' := HB.out
      go_wp2_with fail
      go_returns
      exact ⟨by simp, by (repeat' (first | (with_reducible exact Below.refl _ _) | (with_reducible refine bstep (by with_reducible assumption) ?_) | (with_reducible refine Below.alloc ?_ ?_ _) | (with_reducible refine Below.drew ?_) | (with_reducible refine below_drewN ?_ _) | (with_reducible refine Below.setCell ?_ ?_ _) | go_size))⟩
theorem curveSides_walk (xs : List Int) (hl : xs.length = 48) (_ : ∀ x ∈ xs, I64 x) (i : Int) (hi : I64 i) (n : Int) (hn : I64 n) (w : World) :
    Calls Try.prog 11 #[.agg (xs.map (Value.int .i64)).toArray, .int .i64 i, .int .i64 n] w fun e w' => e = .returned (.bool true) ∧ Below w.heap.size w w' :=
  sides_flat _ _ (is48_list hl) i n hi hn w
end Go.Proofs.Ytdemcleibpgglaa
