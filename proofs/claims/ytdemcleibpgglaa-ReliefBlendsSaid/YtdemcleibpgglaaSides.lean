/- The law on sides of four directions, walked: for all directions and numbers of 64 bits it answers true. -/
import Derived.Test.YtdemcleibpgglaaMix
import Derived.Test.YtdemcleibpgglaaAlive14
namespace Go.Proofs.Ytdemcleibpgglaa
open Go.RowKit
set_option maxRecDepth 100000
set_option linter.unusedSimpArgs false
set_option linter.unusedVariables false
theorem blv_first (a b : Int) : blv true a b 0 1 = a := by simp [blv, rnd_one]
theorem blv_last (a b : Int) : blv true a b 1 1 = b := by simp [blv, rnd_one]
theorem blv_turn (a b i k : Int) : blv true b a (k - i) k = blv true a b i k := by
  unfold blv
  rw [if_pos rfl, if_pos rfl, show k - (k - i) = i by omega, Int.add_comm]
/-- A direction among four and the one of a side: where the first is there, they are one. -/
def Pair (M B : Bool → Int → Int → Int → Prop) : Prop := ∃ (ok okb : Bool) (p q r p' q' r' : Int), M ok p q r ∧ B okb p' q' r' ∧ (ok = true → p = p' ∧ q = q' ∧ r = r')
abbrev MixIs (x0 y0 z0 x1 y1 z1 x2 y2 z2 x3 y3 z3 i k j m : Int) (ok : Bool) (p q r : Int) : Prop := ∀ w : World, Calls Try.prog 36 #[.agg (C12 x0 y0 z0 x1 y1 z1 x2 y2 z2 x3 y3 z3), .int .i64 i, .int .i64 k, .int .i64 j, .int .i64 m] w fun e w' => e = .returned (.tuple #[V3 p q r, .bool ok]) ∧ Below w.heap.size w w'
abbrev BlendIs (x y z x' y' z' i n : Int) (ok : Bool) (p q r : Int) : Prop := ∀ w : World, Calls Try.prog 34 #[V3 x y z, V3 x' y' z', .int .i64 i, .int .i64 n] w fun e w' => e = .returned (.tuple #[V3 p q r, .bool ok]) ∧ Below w.heap.size w w'
theorem pair1 (x0 y0 z0 x1 y1 z1 x2 y2 z2 x3 y3 z3 i k : Int) : Pair (MixIs x0 y0 z0 x1 y1 z1 x2 y2 z2 x3 y3 z3 i k 0 1) (BlendIs x0 y0 z0 x1 y1 z1 i k) := by
  refine ⟨_, _, _, _, _, _, _, _, mix_is x0 y0 z0 x1 y1 z1 x2 y2 z2 x3 y3 z3 i k 0 1 _ _ _ _ rfl rfl rfl rfl, blend_is x0 y0 z0 x1 y1 z1 i k _ _ _ _ rfl rfl rfl rfl, fun h => ?_⟩
  rw [h]
  simp only [mixok, Bool.and_eq_true] at h
  rw [h.1.1]
  simp only [mixv, if_true, blv_first, and_self]
theorem pair2 (x0 y0 z0 x1 y1 z1 x2 y2 z2 x3 y3 z3 i k : Int) : Pair (MixIs x0 y0 z0 x1 y1 z1 x2 y2 z2 x3 y3 z3 1 1 i k) (BlendIs x1 y1 z1 x2 y2 z2 i k) := by
  refine ⟨_, _, _, _, _, _, _, _, mix_is x0 y0 z0 x1 y1 z1 x2 y2 z2 x3 y3 z3 1 1 i k _ _ _ _ rfl rfl rfl rfl, blend_is x1 y1 z1 x2 y2 z2 i k _ _ _ _ rfl rfl rfl rfl, fun h => ?_⟩
  rw [h]
  have hb : blok x1 y1 z1 x2 y2 z2 i k = true := by
    simp only [mixok, blok, Bool.and_eq_true] at h ⊢
    exact ⟨⟨h.2, h.1.1.2⟩, h.1.2.2⟩
  rw [hb]
  simp only [mixv, if_true, blv_last, and_self]
theorem pair3 (x0 y0 z0 x1 y1 z1 x2 y2 z2 x3 y3 z3 i k : Int) (hi : I64 i) (hk : I64 k) : Pair (MixIs x0 y0 z0 x1 y1 z1 x2 y2 z2 x3 y3 z3 (wrap64 (k - i)) k 1 1) (BlendIs x2 y2 z2 x3 y3 z3 i k) := by
  refine ⟨_, _, _, _, _, _, _, _, mix_is x0 y0 z0 x1 y1 z1 x2 y2 z2 x3 y3 z3 (wrap64 (k - i)) k 1 1 _ _ _ _ rfl rfl rfl rfl, blend_is x2 y2 z2 x3 y3 z3 i k _ _ _ _ rfl rfl rfl rfl, fun h => ?_⟩
  rw [h]
  have ht : there (wrap64 (k - i)) k = true := by
    simp only [mixok, blok, Bool.and_eq_true] at h
    exact h.1.1.1.1
  rw [there_iff] at ht
  have e : wrap64 (k - i) = k - i := by
    unfold I64 at hi hk
    unfold wrap64 at ht ⊢
    omega
  rw [e] at ht h ⊢
  have hb : blok x2 y2 z2 x3 y3 z3 i k = true := by
    simp only [mixok, blok, Bool.and_eq_true] at h ⊢
    exact ⟨⟨by rw [there_iff]; omega, h.1.2.2⟩, h.1.2.1.2⟩
  rw [hb]
  simp only [mixv, if_true, blv_last, blv_turn, and_self]
set_option maxHeartbeats 4000000 in
theorem reliefSides_flat (x0 y0 z0 x1 y1 z1 x2 y2 z2 x3 y3 z3 i k : Int) (hi : I64 i) (hk : I64 k) (w : World) :
    Calls Try.prog 14 #[.agg (C12 x0 y0 z0 x1 y1 z1 x2 y2 z2 x3 y3 z3), .int .i64 i, .int .i64 k] w fun e w' => e = .returned (.bool true) ∧ Below w.heap.size w w' := by
  obtain ⟨ok1, ob1, a0, a1, a2, b0, b1, b2, M1, L1, h1⟩ := pair1 x0 y0 z0 x1 y1 z1 x2 y2 z2 x3 y3 z3 i k
  obtain ⟨ok2, ob2, c0, c1, c2, d0, d1, d2, M2, L2, h2⟩ := pair2 x0 y0 z0 x1 y1 z1 x2 y2 z2 x3 y3 z3 i k
  obtain ⟨ok3, ob3, e0, e1, e2, f0, f1, f2, M3, L3, h3⟩ := pair3 x0 y0 z0 x1 y1 z1 x2 y2 z2 x3 y3 z3 i k hi hk
  have M1 := Lib.hid M1
  have M2 := Lib.hid M2
  have M3 := Lib.hid M3
  have L1 := Lib.hid L1
  have L2 := Lib.hid L2
  have L3 := Lib.hid L3
  clear hi hk
  cases ok1 <;> cases ok2 <;> cases ok3 <;> (try (obtain ⟨rfl, rfl, rfl⟩ := h1 rfl)) <;> (try (obtain ⟨rfl, rfl, rfl⟩ := h2 rfl)) <;> (try (obtain ⟨rfl, rfl, rfl⟩ := h3 rfl)) <;> (try clear h1) <;> (try clear h2) <;> (try clear h3)
  all_goals
    go_enter Try.func14, Try.ntmps14
    go_wp2_with (first
      | (go_at_call 20; ((with_reducible refine (alive14_any _).mono ?_); rintro e w1 ⟨rfl, hb1⟩; have A1 := blk_later (by simp) hb1 (new_at rfl _ _)))
      | (go_at_call 36; ((with_reducible refine (M1.out _).mono ?_); rintro e w2 ⟨rfl, hb2⟩; have A2 := blk_later (by simp) hb2 A1; have hsA2 : w.heap.size < w2.heap.size := blk_lt (by simp) A2; clear A1))
      | (go_at_call 34; ((with_reducible refine (L1.out _).mono ?_); rintro e w3 ⟨rfl, hb3⟩; have A3 := blk_later (by simp) hb3 (blk_alloc (by simp) _ A2); have B3 := blk_later (by simp) hb3 (new_at rfl _ _); have hsA3 : w.heap.size < w3.heap.size := blk_lt (by simp) A3; have hsB3 : w2.heap.size < w3.heap.size := blk_lt (by simp) B3; clear A2))
      | (go_at_call 36; ((with_reducible refine (M2.out _).mono ?_); rintro e w4 ⟨rfl, hb4⟩; have A4 := blk_later (by simp) hb4 (blk_alloc (by simp) _ A3); have B4 := blk_later (by simp) hb4 (blk_alloc (by simp) _ B3); have C4 := blk_later (by simp) hb4 (new_at rfl _ _); have hsA4 : w.heap.size < w4.heap.size := blk_lt (by simp) A4; have hsB4 : w2.heap.size < w4.heap.size := blk_lt (by simp) B4; have hsC4 : w3.heap.size < w4.heap.size := blk_lt (by simp) C4; clear A3 B3))
      | (go_at_call 34; ((with_reducible refine (L2.out _).mono ?_); rintro e w5 ⟨rfl, hb5⟩; have A5 := blk_later (by simp) hb5 (blk_alloc (by simp) _ A4); have B5 := blk_later (by simp) hb5 (blk_alloc (by simp) _ B4); have C5 := blk_later (by simp) hb5 (blk_alloc (by simp) _ C4); have D5 := blk_later (by simp) hb5 (new_at rfl _ _); have hsA5 : w.heap.size < w5.heap.size := blk_lt (by simp) A5; have hsB5 : w2.heap.size < w5.heap.size := blk_lt (by simp) B5; have hsC5 : w3.heap.size < w5.heap.size := blk_lt (by simp) C5; have hsD5 : w4.heap.size < w5.heap.size := blk_lt (by simp) D5; clear A4 B4 C4))
      | (go_at_call 36; ((with_reducible refine (M3.out _).mono ?_); rintro e w6 ⟨rfl, hb6⟩; have A6 := blk_later (by simp) hb6 (blk_alloc (by simp) _ A5); have B6 := blk_later (by simp) hb6 (blk_alloc (by simp) _ B5); have C6 := blk_later (by simp) hb6 (blk_alloc (by simp) _ C5); have D6 := blk_later (by simp) hb6 (blk_alloc (by simp) _ D5); have E6 := blk_later (by simp) hb6 (new_at rfl _ _); have hsA6 : w.heap.size < w6.heap.size := blk_lt (by simp) A6; have hsB6 : w2.heap.size < w6.heap.size := blk_lt (by simp) B6; have hsC6 : w3.heap.size < w6.heap.size := blk_lt (by simp) C6; have hsD6 : w4.heap.size < w6.heap.size := blk_lt (by simp) D6; have hsE6 : w5.heap.size < w6.heap.size := blk_lt (by simp) E6; clear A5 B5 C5 D5))
      | (go_at_call 34; ((with_reducible refine (L3.out _).mono ?_); rintro e w7 ⟨rfl, hb7⟩; have A7 := blk_later (by simp) hb7 (blk_alloc (by simp) _ A6); have B7 := blk_later (by simp) hb7 (blk_alloc (by simp) _ B6); have C7 := blk_later (by simp) hb7 (blk_alloc (by simp) _ C6); have D7 := blk_later (by simp) hb7 (blk_alloc (by simp) _ D6); have E7 := blk_later (by simp) hb7 (blk_alloc (by simp) _ E6); have F7 := blk_later (by simp) hb7 (new_at rfl _ _); have hsA7 : w.heap.size < w7.heap.size := blk_lt (by simp) A7; have hsB7 : w2.heap.size < w7.heap.size := blk_lt (by simp) B7; have hsC7 : w3.heap.size < w7.heap.size := blk_lt (by simp) C7; have hsD7 : w4.heap.size < w7.heap.size := blk_lt (by simp) D7; have hsE7 : w5.heap.size < w7.heap.size := blk_lt (by simp) E7; have hsF7 : w6.heap.size < w7.heap.size := blk_lt (by simp) F7; clear A6 B6 C6 D6 E6)))
    go_returns
    exact ⟨by simp, by (repeat' (first | (with_reducible exact Below.refl _ _) | (with_reducible refine bstep (by with_reducible assumption) ?_) | (with_reducible refine Below.alloc ?_ ?_ _) | (with_reducible refine Below.drew ?_) | (with_reducible refine below_drewN ?_ _) | (with_reducible refine Below.setCell ?_ ?_ _) | go_size))⟩
theorem reliefSides_walk (xs : List Int) (hl : xs.length = 12) (_ : ∀ x ∈ xs, I64 x) (i : Int) (hi : I64 i) (k : Int) (hk : I64 k) (w : World) :
    Calls Try.prog 14 #[.agg (xs.map (Value.int .i64)).toArray, .int .i64 i, .int .i64 k] w fun e w' => e = .returned (.bool true) ∧ Below w.heap.size w w' := by
  obtain ⟨x0, y0, z0, x1, y1, z1, x2, y2, z2, x3, y3, z3, rfl⟩ := list12 hl
  exact reliefSides_flat x0 y0 z0 x1 y1 z1 x2 y2 z2 x3 y3 z3 i k hi hk w
end Go.Proofs.Ytdemcleibpgglaa
