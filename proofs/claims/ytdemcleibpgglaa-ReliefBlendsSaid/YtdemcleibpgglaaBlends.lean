/- The law on blends told backwards, walked: for all directions and numbers of 64 bits it answers true. -/
import Derived.Test.YtdemcleibpgglaaSides
import Derived.Test.YtdemcleibpgglaaBound
namespace Go.Proofs.Ytdemcleibpgglaa
open Go.RowKit
set_option maxRecDepth 100000
set_option linter.unusedSimpArgs false
set_option linter.unusedVariables false
def nth6 (a b c d e f : Int) : Nat → Int
  | 0 => a | 1 => b | 2 => c | 3 => d | 4 => e | _ => f
theorem bl_box {a b i n : Int} (h1 : 1 ≤ n) (h3 : 0 ≤ i) (h4 : i ≤ n) : mn a b ≤ blv true a b i n ∧ blv true a b i n ≤ mx a b := by
  obtain ⟨m, hm⟩ : ∃ m, mn a b = m := ⟨_, rfl⟩
  obtain ⟨M, hM⟩ : ∃ m, mx a b = m := ⟨_, rfl⟩
  have l1 : m ≤ a ∧ m ≤ b := by rw [← hm]; unfold mn; split <;> omega
  have l2 : a ≤ M ∧ b ≤ M := by rw [← hM]; unfold mx; split <;> omega
  have p1 := Int.mul_le_mul_of_nonneg_right l1.1 (show 0 ≤ n - i by omega)
  have p2 := Int.mul_le_mul_of_nonneg_right l1.2 h3
  have q1 := Int.mul_le_mul_of_nonneg_right l2.1 (show 0 ≤ n - i by omega)
  have q2 := Int.mul_le_mul_of_nonneg_right l2.2 h3
  have e1 : m * (n - i) + m * i = m * n := by rw [← Int.mul_add]; congr 1; omega
  have e2 : M * (n - i) + M * i = M * n := by rw [← Int.mul_add]; congr 1; omega
  rw [hm, hM]
  unfold blv
  rw [if_pos rfl]
  exact ⟨rnd_ge _ _ _ (by omega) (by omega), rnd_le _ _ _ (by omega) (by omega)⟩
theorem bl_same {a i n : Int} (h1 : 1 ≤ n) : blv true a a i n = a := by
  unfold blv
  rw [if_pos rfl, ← Int.mul_add, show n - i + i = n by omega]
  exact rnd_mul _ _ (by omega)
theorem bl_first {a b n : Int} (h1 : 1 ≤ n) : blv true a b 0 n = a := by
  unfold blv
  rw [if_pos rfl, Int.mul_zero, Int.add_zero, Int.sub_zero]
  exact rnd_mul _ _ (by omega)
theorem bl_last {a b n : Int} (h1 : 1 ≤ n) : blv true a b n n = b := by
  unfold blv
  rw [if_pos rfl, Int.sub_self, Int.mul_zero, Int.zero_add]
  exact rnd_mul _ _ (by omega)
theorem blends_no (x y z x' y' z' i n : Int) (hok : blok x y z x' y' z' i n = false) (w : World) :
    Calls Try.prog 15 #[V3 x y z, V3 x' y' z', .int .i64 i, .int .i64 n] w fun e w' => e = .returned (.bool true) ∧ Below w.heap.size w w' := by
  have L := Lib.hid (blend_is x y z x' y' z' i n false 0 0 0 hok rfl rfl rfl)
  clear hok
  go_enter Try.func15, Try.ntmps15
  go_wp2_with (first
    | (go_at_call 20; ((with_reducible refine (alive14_any _).mono ?_); rintro e w1 ⟨rfl, hb1⟩; have P1 : ∀ o, w1.cell? ⟨w.heap.size, o, none⟩ = (#[.int .i64 x, .int .i64 y, .int .i64 z] : Array Value)[o]? := blk_later (by simp) hb1 (by (repeat (first | (with_reducible assumption) | (focus ((with_reducible refine new_at ?_ _ _); (repeat (first | (with_reducible rfl) | (with_reducible refine sz1 ?_))); done)) | (with_reducible refine blk_alloc (by simp) _ ?_) | (with_reducible refine blk_drew ?_)))); have N1 : ∀ o, w1.cell? ⟨w.heap.size + 1, o, none⟩ = (#[.int .i64 x', .int .i64 y', .int .i64 z'] : Array Value)[o]? := blk_later (by simp) hb1 (by (repeat (first | (with_reducible assumption) | (focus ((with_reducible refine new_at ?_ _ _); (repeat (first | (with_reducible rfl) | (with_reducible refine sz1 ?_))); done)) | (with_reducible refine blk_alloc (by simp) _ ?_) | (with_reducible refine blk_drew ?_))))))
    | (go_at_call 34; ((with_reducible refine (L.out _).mono ?_); rintro e w2 ⟨rfl, hb2⟩; have P2 := blk_later (by simp) hb2 P1; have hs2 : w.heap.size < w2.heap.size := blk_lt (by simp) P2)))
  go_returns
  exact ⟨by simp, by (repeat' (first | (with_reducible exact Below.refl _ _) | (with_reducible refine bstep (by with_reducible assumption) ?_) | (with_reducible refine Below.alloc ?_ ?_ _) | (with_reducible refine Below.drew ?_) | (with_reducible refine below_drewN ?_ _) | (with_reducible refine Below.setCell ?_ ?_ _) | go_size))⟩
set_option maxHeartbeats 4000000 in
theorem blends_yes (x y z x' y' z' i n : Int) (hok : blok x y z x' y' z' i n = true) (w : World) :
    Calls Try.prog 15 #[V3 x y z, V3 x' y' z', .int .i64 i, .int .i64 n] w fun e w' => e = .returned (.bool true) ∧ Below w.heap.size w w' := by
  have hk := hok
  simp only [blok, Bool.and_eq_true, there_iff] at hk
  obtain ⟨⟨⟨h1, h2, h3, h4⟩, ha⟩, hb⟩ := hk
  have e : wrap64 (n - i) = n - i := w64 (by omega) (by omega)
  have ok2 : blok x' y' z' x y z (wrap64 (n - i)) n = true := by
    rw [e]; simp only [blok, Bool.and_eq_true, there_iff]; exact ⟨⟨by omega, hb⟩, ha⟩
  have ok3 : blok x y z x y z i n = true := by
    simp only [blok, Bool.and_eq_true, there_iff]; exact ⟨⟨by omega, ha⟩, ha⟩
  have b0 := bl_box (a := x) (b := x') h1 h3 h4
  have b1 := bl_box (a := y) (b := y') h1 h3 h4
  have b2 := bl_box (a := z) (b := z') h1 h3 h4
  have i0 : i = 0 → blv true x x' i n = x ∧ blv true y y' i n = y ∧ blv true z z' i n = z := fun h => by rw [h]; exact ⟨bl_first h1, bl_first h1, bl_first h1⟩
  have i1 : i = n → blv true x x' i n = x' ∧ blv true y y' i n = y' ∧ blv true z z' i n = z' := fun h => by rw [h]; exact ⟨bl_last h1, bl_last h1, bl_last h1⟩
  have L1 := blend_is x y z x' y' z' i n true _ _ _ hok rfl rfl rfl
  have L2 := blend_is x' y' z' x y z (wrap64 (n - i)) n true (blv true x x' i n) (blv true y y' i n) (blv true z z' i n) ok2 (by rw [e]; exact blv_turn _ _ _ _) (by rw [e]; exact blv_turn _ _ _ _) (by rw [e]; exact blv_turn _ _ _ _)
  have L3 := Lib.hid (blend_is x y z x y z i n true x y z ok3 (bl_same h1) (bl_same h1) (bl_same h1))
  obtain ⟨p, ep⟩ : ∃ p, blv true x x' i n = p := ⟨_, rfl⟩
  obtain ⟨q, eq⟩ : ∃ p, blv true y y' i n = p := ⟨_, rfl⟩
  obtain ⟨r, er⟩ : ∃ p, blv true z z' i n = p := ⟨_, rfl⟩
  rw [ep, eq, er] at L1 L2 i0 i1
  rw [ep] at b0
  rw [eq] at b1
  rw [er] at b2
  have L1 := Lib.hid L1
  have L2 := Lib.hid L2
  have BO : ∀ v w, Pts w v 2 (nth6 x y z x' y' z') → Calls Try.prog 26 #[v] w fun e w' => e = .returned (.tuple #[B6 (mn x x') (mn y y') (mn z z') (mx x x') (mx y y') (mx z z'), .bool true]) ∧ Below w.heap.size w w' := fun v w hv => bound_some 2 v (nth6 x y z x' y' z') (by omega) w hv
  have HA := fun w => has_any (mn x x') (mn y y') (mn z z') (mx x x') (mx y y') (mx z z') p q r w
  rw [show hasB (mn x x') (mn y y') (mn z z') (mx x x') (mx y y') (mx z z') p q r = true by simp only [hasB, btw, Bool.and_eq_true, decide_eq_true_eq]; exact ⟨⟨b0, b1⟩, b2⟩] at HA
  have I0 := Lib.hid i0
  have I1 := Lib.hid i1
  obtain ⟨m0, em0⟩ : ∃ p, mn x x' = p := ⟨_, rfl⟩
  obtain ⟨m1, em1⟩ : ∃ p, mn y y' = p := ⟨_, rfl⟩
  obtain ⟨m2, em2⟩ : ∃ p, mn z z' = p := ⟨_, rfl⟩
  obtain ⟨m3, em3⟩ : ∃ p, mx x x' = p := ⟨_, rfl⟩
  obtain ⟨m4, em4⟩ : ∃ p, mx y y' = p := ⟨_, rfl⟩
  obtain ⟨m5, em5⟩ : ∃ p, mx z z' = p := ⟨_, rfl⟩
  rw [em0, em1, em2, em3, em4, em5] at BO HA
  have BO := Lib.hid BO
  have HA : Hid _ := Lib.hid HA
  clear hok ha hb e ok2 ok3 b0 b1 b2 ep eq er h2 h3 h4 i0 i1 em0 em1 em2 em3 em4 em5
  go_enter Try.func15, Try.ntmps15
  go_wp2_with (first
    | (go_at_call 20; ((with_reducible refine (alive14_any _).mono ?_); rintro e w1 ⟨rfl, hb1⟩; have P1 : ∀ o, w1.cell? ⟨w.heap.size, o, none⟩ = (#[.int .i64 x, .int .i64 y, .int .i64 z] : Array Value)[o]? := blk_later (by simp) hb1 (by (repeat (first | (with_reducible assumption) | (focus ((with_reducible refine new_at ?_ _ _); (repeat (first | (with_reducible rfl) | (with_reducible refine sz1 ?_))); done)) | (with_reducible refine blk_alloc (by simp) _ ?_) | (with_reducible refine blk_drew ?_)))); have N1 : ∀ o, w1.cell? ⟨w.heap.size + 1, o, none⟩ = (#[.int .i64 x', .int .i64 y', .int .i64 z'] : Array Value)[o]? := blk_later (by simp) hb1 (by (repeat (first | (with_reducible assumption) | (focus ((with_reducible refine new_at ?_ _ _); (repeat (first | (with_reducible rfl) | (with_reducible refine sz1 ?_))); done)) | (with_reducible refine blk_alloc (by simp) _ ?_) | (with_reducible refine blk_drew ?_))))))
    | (go_at_call 34; ((with_reducible refine (L1.out _).mono ?_); rintro e w2 ⟨rfl, hb2⟩; have P2 := blk_later (by simp) hb2 P1; have N2 := blk_later (by simp) hb2 N1; have s2 : w.heap.size + 1 < w2.heap.size := blk_lt (by simp) N2; have s2' : w.heap.size < w2.heap.size := (by omega); clear P1 N1))
    | (go_at_call 34; ((with_reducible refine (L2.out _).mono ?_); rintro e w3 ⟨rfl, hb3⟩; have P3 := blk_later (by simp) hb3 (blk_alloc (by simp) _ P2); have N3 := blk_later (by simp) hb3 (blk_alloc (by simp) _ N2); have X3 := blk_later (by simp) hb3 (new_at rfl _ _); have s3 : w.heap.size + 1 < w3.heap.size := blk_lt (by simp) N3; have s3' : w.heap.size < w3.heap.size := (by omega); have s3x : w2.heap.size < w3.heap.size := blk_lt (by simp) X3; clear P2 N2))
    | (go_at_call 34; ((with_reducible refine (L3.out _).mono ?_); rintro e w4 ⟨rfl, hb4⟩; have P4 := blk_later (by simp) hb4 (blk_alloc (by simp) _ P3); have N4 := blk_later (by simp) hb4 (blk_alloc (by simp) _ N3); have X4 := blk_later (by simp) hb4 (blk_alloc (by simp) _ X3); have Y4 := blk_later (by simp) hb4 (new_at rfl _ _); have s4 : w.heap.size + 1 < w4.heap.size := blk_lt (by simp) N4; have s4' : w.heap.size < w4.heap.size := (by omega); have s4x : w2.heap.size < w4.heap.size := blk_lt (by simp) X4; have s4y : w3.heap.size < w4.heap.size := blk_lt (by simp) Y4; clear P3 N3 X3))
    | (go_at_call 26; ((refine (BO.out _ _ (.inr ⟨w4.heap.size + 1, 0, 2, rfl, (by decide), (by decide), (by decide), (by (repeat (first | (with_reducible assumption) | (focus ((with_reducible refine lt_new ?_); (repeat (first | (with_reducible rfl) | (with_reducible refine sz1 ?_))); done)) | (with_reducible refine lt_here ?_)))), fun o ho => by match o, ho with | 0, _ => simp [nth6] | 1, _ => simp [nth6] | 2, _ => simp [nth6] | 3, _ => simp [nth6] | 4, _ => simp [nth6] | 5, _ => simp [nth6]⟩)).mono ?_); rintro e w5 ⟨rfl, hb5⟩; have P5 := blk_later (by simp) hb5 (blk_alloc (by simp) _ (blk_alloc (by simp) _ P4)); have N5 := blk_later (by simp) hb5 (blk_alloc (by simp) _ (blk_alloc (by simp) _ N4)); have X5 := blk_later (by simp) hb5 (blk_alloc (by simp) _ (blk_alloc (by simp) _ X4)); have Y5 := blk_later (by simp) hb5 (blk_alloc (by simp) _ (blk_alloc (by simp) _ Y4)); have Z5 := blk_later (by simp) hb5 (blk_alloc (by simp) _ (new_at rfl _ _)); have s5 : w.heap.size + 1 < w5.heap.size := blk_lt (by simp) N5; have s5' : w.heap.size < w5.heap.size := (by omega); have s5x : w2.heap.size < w5.heap.size := blk_lt (by simp) X5; have s5y : w3.heap.size < w5.heap.size := blk_lt (by simp) Y5; have s5z : w4.heap.size < w5.heap.size := blk_lt (by simp) Z5; clear P4 N4 X4 Y4))
    | (go_at_call 27; ((with_reducible refine (HA.out _).mono ?_); rintro e w6 ⟨rfl, hb6⟩; have P6 := blk_later (by simp) hb6 (blk_alloc (by simp) _ P5); have N6 := blk_later (by simp) hb6 (blk_alloc (by simp) _ N5); have X6 := blk_later (by simp) hb6 (blk_alloc (by simp) _ X5); clear P5 N5 X5 Y5 Z5)))
  all_goals
    first | (have j0 := I0.out (by assumption)) | skip
    first | (have j1 := I1.out (by assumption)) | skip
    first | (exfalso; omega) | (go_returns; exact ⟨by first | (simp; done) | (simp; omega), by (repeat' (first | (with_reducible exact Below.refl _ _) | (with_reducible refine bstep (by with_reducible assumption) ?_) | (with_reducible refine Below.alloc ?_ ?_ _) | (with_reducible refine Below.drew ?_) | (with_reducible refine below_drewN ?_ _) | (with_reducible refine Below.setCell ?_ ?_ _) | go_size))⟩)
theorem reliefBlends_walk (x y z : Int) (_ : I64 x) (_ : I64 y) (_ : I64 z) (x' y' z' : Int) (_ : I64 x') (_ : I64 y') (_ : I64 z') (i : Int) (_ : I64 i) (n : Int) (_ : I64 n) (w : World) :
    Calls Try.prog 15 #[V3 x y z, V3 x' y' z', .int .i64 i, .int .i64 n] w fun e w' => e = .returned (.bool true) ∧ Below w.heap.size w w' := by
  cases hok : blok x y z x' y' z' i n
  · exact blends_no x y z x' y' z' i n hok w
  · exact blends_yes x y z x' y' z' i n hok w
end Go.Proofs.Ytdemcleibpgglaa
