/- The law on inner and outer products of sums, walked: for all a, b, c of 64 bits it answers true. -/
import Derived.Test.YtbmemnbfdbpdkaaAlive02
import Derived.Test.YtbmemnbfdbpdkaaRing
namespace Go.Proofs.Ytbmemnbfdbpdkaa
open Go.RowKit
set_option maxRecDepth 100000
set_option linter.unusedSimpArgs false
theorem dot_sum (x y z a b c p q r : Int) : wrap64 (wrap64 (wrap64 (wrap64 (x + a) * p) + wrap64 (wrap64 (y + b) * q)) + wrap64 (wrap64 (z + c) * r)) = wrap64 (wrap64 (wrap64 (wrap64 (x * p) + wrap64 (y * q)) + wrap64 (z * r)) + wrap64 (wrap64 (wrap64 (a * p) + wrap64 (b * q)) + wrap64 (c * r))) := by
  simp only [w64_addl, w64_addr, w64_subl, w64_subr, w64_mull, w64_mulr, w64_neg, w64_w64]
  congr 1; grind
theorem cross_sum (y z b c q r : Int) : wrap64 (wrap64 (wrap64 (y + b) * r) - wrap64 (wrap64 (z + c) * q)) = wrap64 (wrap64 (wrap64 (y * r) - wrap64 (z * q)) + wrap64 (wrap64 (b * r) - wrap64 (c * q))) := by
  simp only [w64_addl, w64_addr, w64_subl, w64_subr, w64_mull, w64_mulr, w64_neg, w64_w64]
  congr 1; grind
theorem dot_swap (x y z a b c : Int) : wrap64 (wrap64 (wrap64 (a * x) + wrap64 (b * y)) + wrap64 (c * z)) = wrap64 (wrap64 (wrap64 (x * a) + wrap64 (y * b)) + wrap64 (z * c)) := by
  rw [Int.mul_comm a x, Int.mul_comm b y, Int.mul_comm c z]
theorem back_add {x : Int} (h : I64 x) (a : Int) : wrap64 (wrap64 (x + a) - a) = x := by
  unfold I64 at h; unfold wrap64; omega
set_option maxHeartbeats 2000000 in
theorem vecSpreads_walk (x y z : Int) (hx : I64 x) (hy : I64 y) (hz : I64 z) (a b c : Int) (_ : I64 a) (_ : I64 b) (_ : I64 c) (p q r : Int) (_ : I64 p) (_ : I64 q) (_ : I64 r) (w : World) :
    Calls Try.prog 8 #[V3 x y z, V3 a b c, V3 p q r] w fun e w' => e = .returned (.bool true) ∧ Below w.heap.size w w' := by
  have e1 := dot_sum x y z a b c p q r
  have e2 := cross_sum y z b c q r
  have e3 := cross_sum z x c a r p
  have e4 := cross_sum x y a b p q
  have e5 := dot_swap x y z a b c
  have e6 := back_add hx a
  have e7 := back_add hy b
  have e8 := back_add hz c
  obtain ⟨s1, h1⟩ : ∃ s, wrap64 (x + a) = s := ⟨_, rfl⟩
  obtain ⟨s2, h2⟩ : ∃ s, wrap64 (y + b) = s := ⟨_, rfl⟩
  obtain ⟨s3, h3⟩ : ∃ s, wrap64 (z + c) = s := ⟨_, rfl⟩
  obtain ⟨d1, h4⟩ : ∃ s, wrap64 (wrap64 (wrap64 (x * p) + wrap64 (y * q)) + wrap64 (z * r)) = s := ⟨_, rfl⟩
  obtain ⟨d2, h5⟩ : ∃ s, wrap64 (wrap64 (wrap64 (a * p) + wrap64 (b * q)) + wrap64 (c * r)) = s := ⟨_, rfl⟩
  obtain ⟨d3, h6⟩ : ∃ s, wrap64 (wrap64 (wrap64 (x * a) + wrap64 (y * b)) + wrap64 (z * c)) = s := ⟨_, rfl⟩
  obtain ⟨dd, h7⟩ : ∃ s, wrap64 (d1 + d2) = s := ⟨_, rfl⟩
  have hdd : IntKind.i64.wrap (d1 + d2) = dd := by rw [IntKind.wrap_i64]; unfold wrap64 at h7; exact h7
  obtain ⟨k1, g1⟩ : ∃ s, wrap64 (wrap64 (y * r) - wrap64 (z * q)) = s := ⟨_, rfl⟩
  obtain ⟨k2, g2⟩ : ∃ s, wrap64 (wrap64 (z * p) - wrap64 (x * r)) = s := ⟨_, rfl⟩
  obtain ⟨k3, g3⟩ : ∃ s, wrap64 (wrap64 (x * q) - wrap64 (y * p)) = s := ⟨_, rfl⟩
  obtain ⟨l1, g4⟩ : ∃ s, wrap64 (wrap64 (b * r) - wrap64 (c * q)) = s := ⟨_, rfl⟩
  obtain ⟨l2, g5⟩ : ∃ s, wrap64 (wrap64 (c * p) - wrap64 (a * r)) = s := ⟨_, rfl⟩
  obtain ⟨l3, g6⟩ : ∃ s, wrap64 (wrap64 (a * q) - wrap64 (b * p)) = s := ⟨_, rfl⟩
  rw [h1, h2, h3, h4, h5, h7] at e1
  rw [h2, h3, g1, g4] at e2
  rw [h3, h1, g2, g5] at e3
  rw [h1, h2, g3, g6] at e4
  rw [h6] at e5
  rw [h1] at e6
  rw [h2] at e7
  rw [h3] at e8
  have A1 : Hid (∀ w, Calls Try.prog 26 #[V3 x y z, V3 a b c] w fun e w' => e = .returned (V3 s1 s2 s3) ∧ Below w.heap.size w w') := by
    intro w; have := add_any x y z a b c w; rw [h1, h2, h3] at this; exact this
  have D0 : Hid (∀ w, Calls Try.prog 25 #[V3 s1 s2 s3, V3 p q r] w fun e w' => e = .returned (.int .i64 dd) ∧ Below w.heap.size w w') := by
    intro w; have := dot_any s1 s2 s3 p q r w; rw [e1] at this; exact this
  have D1 : Hid (∀ w, Calls Try.prog 25 #[V3 x y z, V3 p q r] w fun e w' => e = .returned (.int .i64 d1) ∧ Below w.heap.size w w') := by
    intro w; have := dot_any x y z p q r w; rw [h4] at this; exact this
  have D2 : Hid (∀ w, Calls Try.prog 25 #[V3 a b c, V3 p q r] w fun e w' => e = .returned (.int .i64 d2) ∧ Below w.heap.size w w') := by
    intro w; have := dot_any a b c p q r w; rw [h5] at this; exact this
  have D3 : Hid (∀ w, Calls Try.prog 25 #[V3 x y z, V3 a b c] w fun e w' => e = .returned (.int .i64 d3) ∧ Below w.heap.size w w') := by
    intro w; have := dot_any x y z a b c w; rw [h6] at this; exact this
  have D4 : Hid (∀ w, Calls Try.prog 25 #[V3 a b c, V3 x y z] w fun e w' => e = .returned (.int .i64 d3) ∧ Below w.heap.size w w') := by
    intro w; have := dot_any a b c x y z w; rw [e5] at this; exact this
  have K0 : Hid (∀ w, Calls Try.prog 24 #[V3 s1 s2 s3, V3 p q r] w fun e w' => e = .returned (V3 (wrap64 (k1 + l1)) (wrap64 (k2 + l2)) (wrap64 (k3 + l3))) ∧ Below w.heap.size w w') := by
    intro w; have := cross_any s1 s2 s3 p q r w; rw [e2, e3, e4] at this; exact this
  have K1 : Hid (∀ w, Calls Try.prog 24 #[V3 x y z, V3 p q r] w fun e w' => e = .returned (V3 k1 k2 k3) ∧ Below w.heap.size w w') := by
    intro w; have := cross_any x y z p q r w; rw [g1, g2, g3] at this; exact this
  have K2 : Hid (∀ w, Calls Try.prog 24 #[V3 a b c, V3 p q r] w fun e w' => e = .returned (V3 l1 l2 l3) ∧ Below w.heap.size w w') := by
    intro w; have := cross_any a b c p q r w; rw [g4, g5, g6] at this; exact this
  have A2 : Hid (∀ w, Calls Try.prog 26 #[V3 k1 k2 k3, V3 l1 l2 l3] w fun e w' => e = .returned (V3 (wrap64 (k1 + l1)) (wrap64 (k2 + l2)) (wrap64 (k3 + l3))) ∧ Below w.heap.size w w') := add_any k1 k2 k3 l1 l2 l3
  have B1 : Hid (∀ w, Calls Try.prog 27 #[V3 s1 s2 s3, V3 a b c] w fun e w' => e = .returned (V3 x y z) ∧ Below w.heap.size w w') := by
    intro w; have := sub_any s1 s2 s3 a b c w; rw [e6, e7, e8] at this; exact this
  clear e1 e2 e3 e4 e5 e6 e7 e8 h1 h2 h3 h4 h5 h6 h7 g1 g2 g3 g4 g5 g6 hx hy hz
  go_enter Try.func8, Try.ntmps8
  go_wp2_with (first
    | (go_at_call 20; refine (alive02_any _).mono ?_; rintro e w1 ⟨rfl, hb1⟩; obtain ⟨hc1, hf1⟩ := bcell hb1; have hz1 : w.heap.size + 2 < w1.heap.size := by have := hb1.size; simp at this; omega)
    | (go_at_call 26; refine (A1.out _).mono ?_; rintro e w2 ⟨rfl, hb2⟩; obtain ⟨hc2, hf2⟩ := bcell hb2))
  have hz2 : w.heap.size + 2 < w2.heap.size := by have := hb2.size; omega
  have hz3 : w.heap.size < w2.heap.size := by omega
  have hz4 : w.heap.size < w1.heap.size := by omega
  have hz5 : w.heap.size + 1 < w2.heap.size := by omega
  have hz6 : w.heap.size + 1 < w1.heap.size := by omega
  have hz7 : w.heap.size + 1 + 1 < w1.heap.size := by omega
  have hz8 : w.heap.size + 1 + 1 < w2.heap.size := by omega
  clear hz1 hz2
  have gx : w2.cell? ⟨w.heap.size, 0, none⟩ = some (.int .i64 x) := cell_later hb2 (cell_later hb1 (by simp [go_sem]))
  have gy : w2.cell? ⟨w.heap.size, 1, none⟩ = some (.int .i64 y) := cell_later hb2 (cell_later hb1 (by simp [go_sem]))
  have gz : w2.cell? ⟨w.heap.size, 2, none⟩ = some (.int .i64 z) := cell_later hb2 (cell_later hb1 (by simp [go_sem]))
  have ga : w2.cell? ⟨w.heap.size + 1, 0, none⟩ = some (.int .i64 a) := cell_later hb2 (cell_later hb1 (by simp [go_sem]))
  have gb : w2.cell? ⟨w.heap.size + 1, 1, none⟩ = some (.int .i64 b) := cell_later hb2 (cell_later hb1 (by simp [go_sem]))
  have gc : w2.cell? ⟨w.heap.size + 1, 2, none⟩ = some (.int .i64 c) := cell_later hb2 (cell_later hb1 (by simp [go_sem]))
  have gp : w2.cell? ⟨w.heap.size + 1 + 1, 0, none⟩ = some (.int .i64 p) := cell_later hb2 (cell_later hb1 (by simp [go_sem]))
  have gq : w2.cell? ⟨w.heap.size + 1 + 1, 1, none⟩ = some (.int .i64 q) := cell_later hb2 (cell_later hb1 (by simp [go_sem]))
  have gr : w2.cell? ⟨w.heap.size + 1 + 1, 2, none⟩ = some (.int .i64 r) := cell_later hb2 (cell_later hb1 (by simp [go_sem]))
  go_region_held3 (fun w' => w'.cell? ⟨w.heap.size, 0, none⟩ = some (.int .i64 x) ∧ w'.cell? ⟨w.heap.size, 1, none⟩ = some (.int .i64 y) ∧ w'.cell? ⟨w.heap.size, 2, none⟩ = some (.int .i64 z) ∧
      w'.cell? ⟨w.heap.size + 1, 0, none⟩ = some (.int .i64 a) ∧ w'.cell? ⟨w.heap.size + 1, 1, none⟩ = some (.int .i64 b) ∧ w'.cell? ⟨w.heap.size + 1, 2, none⟩ = some (.int .i64 c) ∧
      w'.cell? ⟨w.heap.size + 1 + 1, 0, none⟩ = some (.int .i64 p) ∧ w'.cell? ⟨w.heap.size + 1 + 1, 1, none⟩ = some (.int .i64 q) ∧ w'.cell? ⟨w.heap.size + 1 + 1, 2, none⟩ = some (.int .i64 r) ∧
      w'.cell? ⟨w2.heap.size, 0, none⟩ = some (.int .i64 s1) ∧ w'.cell? ⟨w2.heap.size, 1, none⟩ = some (.int .i64 s2) ∧ w'.cell? ⟨w2.heap.size, 2, none⟩ = some (.int .i64 s3)) ((first | (go_keep; done) | (go_split_ands; (repeat' apply And.intro) <;> (first | assumption | (exact cell_later (by assumption) (by assumption)) | (((with_reducible apply cell_drew); with_reducible apply cell_alloc); assumption) | (go_keep; done) | (simp [*, go_sem]; done)))))
    (first
      | (go_at_call 25; ((with_reducible refine (D0.out _).mono ?_); rintro e w3 ⟨rfl, hb3⟩))
      | (go_at_call 25; ((with_reducible refine (D1.out _).mono ?_); rintro e w3 ⟨rfl, hb3⟩))
      | (go_at_call 25; ((with_reducible refine (D2.out _).mono ?_); rintro e w3 ⟨rfl, hb3⟩))
      | (go_at_call 25; ((with_reducible refine (D3.out _).mono ?_); rintro e w3 ⟨rfl, hb3⟩))
      | (go_at_call 25; ((with_reducible refine (D4.out _).mono ?_); rintro e w3 ⟨rfl, hb3⟩))
      | (go_at_call 24; ((with_reducible refine (K0.out _).mono ?_); rintro e w3 ⟨rfl, hb3⟩))
      | (go_at_call 24; ((with_reducible refine (K1.out _).mono ?_); rintro e w3 ⟨rfl, hb3⟩))
      | (go_at_call 24; ((with_reducible refine (K2.out _).mono ?_); rintro e w3 ⟨rfl, hb3⟩))
      | (go_at_call 26; ((with_reducible refine (A2.out _).mono ?_); rintro e w3 ⟨rfl, hb3⟩))
      | (go_at_call 27; ((with_reducible refine (B1.out _).mono ?_); rintro e w3 ⟨rfl, hb3⟩)))
  all_goals (go_wp2; go_returns; exact ⟨by simp, by (repeat' (first | (with_reducible exact Below.refl _ _) | (with_reducible refine bstep (by with_reducible assumption) ?_) | (with_reducible refine Below.alloc ?_ ?_ _) | (with_reducible refine Below.drew ?_) | (with_reducible refine below_drewN ?_ _) | (with_reducible refine Below.setCell ?_ ?_ _) | go_size))⟩)
end Go.Proofs.Ytbmemnbfdbpdkaa
