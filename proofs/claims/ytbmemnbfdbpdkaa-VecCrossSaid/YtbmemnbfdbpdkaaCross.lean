/- The law on the outer product, walked: for all a and b of 64 bits it answers true. -/
import Derived.Test.YtbmemnbfdbpdkaaAlive02
import Derived.Test.YtbmemnbfdbpdkaaRing
namespace Go.Proofs.Ytbmemnbfdbpdkaa
open Go.RowKit
set_option maxRecDepth 100000
set_option linter.unusedSimpArgs false
theorem sq_left (x y z a b c : Int) : wrap64 (wrap64 (wrap64 (wrap64 (wrap64 (y * c) - wrap64 (z * b)) * x) + wrap64 (wrap64 (wrap64 (z * a) - wrap64 (x * c)) * y)) + wrap64 (wrap64 (wrap64 (x * b) - wrap64 (y * a)) * z)) = 0 := by
  simp only [w64_addl, w64_addr, w64_subl, w64_subr, w64_mull, w64_mulr, w64_neg, w64_w64]
  rw [← w64_nil]; congr 1; grind
theorem sq_right (x y z a b c : Int) : wrap64 (wrap64 (wrap64 (wrap64 (wrap64 (y * c) - wrap64 (z * b)) * a) + wrap64 (wrap64 (wrap64 (z * a) - wrap64 (x * c)) * b)) + wrap64 (wrap64 (wrap64 (x * b) - wrap64 (y * a)) * c)) = 0 := by
  simp only [w64_addl, w64_addr, w64_subl, w64_subr, w64_mull, w64_mulr, w64_neg, w64_w64]
  rw [← w64_nil]; congr 1; grind
theorem turned (a b c d : Int) : wrap64 (wrap64 (a * b) - wrap64 (c * d)) = wrap64 (-(wrap64 (wrap64 (d * c) - wrap64 (b * a)))) := by
  simp only [w64_addl, w64_addr, w64_subl, w64_subr, w64_mull, w64_mulr, w64_neg, w64_w64]
  congr 1; grind
theorem gone (p : Int) : wrap64 (p + wrap64 (-p)) = 0 := by unfold wrap64; omega
theorem alike (a b : Int) : wrap64 (wrap64 (a * b) - wrap64 (b * a)) = 0 := by rw [Int.mul_comm b a, Int.sub_self, w64_nil]
set_option maxHeartbeats 1000000 in
theorem vecCross_walk (x y z : Int) (_ : I64 x) (_ : I64 y) (_ : I64 z) (a b c : Int) (_ : I64 a) (_ : I64 b) (_ : I64 c) (w : World) :
    Calls Try.prog 7 #[V3 x y z, V3 a b c] w fun e w' => e = .returned (.bool true) ∧ Below w.heap.size w w' := by
  have e1 := sq_left x y z a b c
  have e2 := sq_right x y z a b c
  have e3 := turned b z c y
  have e4 := turned c x a z
  have e5 := turned a y b x
  have e6 := alike y z
  have e7 := alike z x
  have e8 := alike x y
  obtain ⟨p, hp⟩ : ∃ p, wrap64 (wrap64 (y * c) - wrap64 (z * b)) = p := ⟨_, rfl⟩
  obtain ⟨q, hq⟩ : ∃ q, wrap64 (wrap64 (z * a) - wrap64 (x * c)) = q := ⟨_, rfl⟩
  obtain ⟨r, hr⟩ : ∃ r, wrap64 (wrap64 (x * b) - wrap64 (y * a)) = r := ⟨_, rfl⟩
  rw [hp, hq, hr] at e1 e2
  rw [hp] at e3
  rw [hq] at e4
  rw [hr] at e5
  have K1 : Hid (∀ w, Calls Try.prog 24 #[V3 x y z, V3 a b c] w fun e w' => e = .returned (V3 p q r) ∧ Below w.heap.size w w') := by
    intro w; have := cross_any x y z a b c w; rw [hp, hq, hr] at this; exact this
  have D1 : Hid (∀ w, Calls Try.prog 25 #[V3 p q r, V3 x y z] w fun e w' => e = .returned (.int .i64 0) ∧ Below w.heap.size w w') := by
    intro w; have := dot_any p q r x y z w; rw [e1] at this; exact this
  have D2 : Hid (∀ w, Calls Try.prog 25 #[V3 p q r, V3 a b c] w fun e w' => e = .returned (.int .i64 0) ∧ Below w.heap.size w w') := by
    intro w; have := dot_any p q r a b c w; rw [e2] at this; exact this
  have K2 : Hid (∀ w, Calls Try.prog 24 #[V3 a b c, V3 x y z] w fun e w' => e = .returned (V3 (wrap64 (-p)) (wrap64 (-q)) (wrap64 (-r))) ∧ Below w.heap.size w w') := by
    intro w; have := cross_any a b c x y z w; rw [e3, e4, e5] at this; exact this
  have S1 : Hid (∀ w, Calls Try.prog 26 #[V3 p q r, V3 (wrap64 (-p)) (wrap64 (-q)) (wrap64 (-r))] w fun e w' => e = .returned (V3 0 0 0) ∧ Below w.heap.size w w') := by
    intro w; have := add_any p q r (wrap64 (-p)) (wrap64 (-q)) (wrap64 (-r)) w; rw [gone, gone, gone] at this; exact this
  have K3 : Hid (∀ w, Calls Try.prog 24 #[V3 x y z, V3 x y z] w fun e w' => e = .returned (V3 0 0 0) ∧ Below w.heap.size w w') := by
    intro w; have := cross_any x y z x y z w; rw [e6, e7, e8] at this; exact this
  clear hp hq hr e1 e2 e3 e4 e5 e6 e7 e8
  go_enter Try.func7, Try.ntmps7
  go_wp2_with (first
    | (go_at_call 20; refine (alive02_any _).mono ?_; rintro e w1 ⟨rfl, hb1⟩; obtain ⟨hc1, hf1⟩ := bcell hb1; have hz1 : w.heap.size + 1 < w1.heap.size := by have := hb1.size; simp at this; omega)
    | (go_at_call 24; refine (K1.out _).mono ?_; rintro e w2 ⟨rfl, hb2⟩; obtain ⟨hc2, hf2⟩ := bcell hb2))
  have hz2 : w.heap.size + 1 < w2.heap.size := by have := hb2.size; omega
  have hz3 : w.heap.size < w2.heap.size := by omega
  have hz4 : w.heap.size < w1.heap.size := by omega
  go_region_held3 (fun w' => w'.cell? ⟨w.heap.size, 0, none⟩ = some (.int .i64 x) ∧ w'.cell? ⟨w.heap.size, 1, none⟩ = some (.int .i64 y) ∧ w'.cell? ⟨w.heap.size, 2, none⟩ = some (.int .i64 z) ∧
      w'.cell? ⟨w.heap.size + 1, 0, none⟩ = some (.int .i64 a) ∧ w'.cell? ⟨w.heap.size + 1, 1, none⟩ = some (.int .i64 b) ∧ w'.cell? ⟨w.heap.size + 1, 2, none⟩ = some (.int .i64 c) ∧
      w'.cell? ⟨w2.heap.size, 0, none⟩ = some (.int .i64 p) ∧ w'.cell? ⟨w2.heap.size, 1, none⟩ = some (.int .i64 q) ∧ w'.cell? ⟨w2.heap.size, 2, none⟩ = some (.int .i64 r)) ((first | go_keep | (go_split_ands; (repeat' apply And.intro) <;> (first | assumption | (exact cell_later (by assumption) (by assumption)) | go_keep | (simp [*, go_sem]; done)))))
    (first
      | (go_at_call 25; ((with_reducible refine (D1.out _).mono ?_); rintro e w3 ⟨rfl, hb3⟩))
      | (go_at_call 25; ((with_reducible refine (D2.out _).mono ?_); rintro e w3 ⟨rfl, hb3⟩))
      | (go_at_call 24; ((with_reducible refine (K2.out _).mono ?_); rintro e w3 ⟨rfl, hb3⟩))
      | (go_at_call 24; ((with_reducible refine (K3.out _).mono ?_); rintro e w3 ⟨rfl, hb3⟩))
      | (go_at_call 26; ((with_reducible refine (S1.out _).mono ?_); rintro e w3 ⟨rfl, hb3⟩)))
  all_goals (go_wp2; go_returns; exact ⟨by simp, by (repeat' (first | (with_reducible exact Below.refl _ _) | (with_reducible refine bstep (by with_reducible assumption) ?_) | (with_reducible refine Below.alloc ?_ ?_ _) | (with_reducible refine Below.drew ?_) | (with_reducible refine below_drewN ?_ _) | (with_reducible refine Below.setCell ?_ ?_ _) | go_size))⟩)
end Go.Proofs.Ytbmemnbfdbpdkaa
