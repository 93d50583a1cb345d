/- The laws on lifted points, walked: a point moves by no more than the height. -/
import Derived.Test.YtdemcleibpgglaaAlive14
namespace Go.Proofs.Ytdemcleibpgglaa
open Go.RowKit
set_option maxRecDepth 100000
set_option linter.unusedSimpArgs false
set_option linter.unusedVariables false
theorem near_no (x y z a b c t h : Int) (hok : lfok x y z a b c t h = false) (w : World) :
    Calls Try.prog 6 #[V3 x y z, V3 a b c, .int .i64 t, .int .i64 h] w fun e w' => e = .returned (.bool true) ∧ Below w.heap.size w w' := by
  have L := Lib.hid (lift_is x y z a b c t h false 0 0 0 hok rfl rfl rfl)
  clear hok
  go_enter Try.func6, Try.ntmps6
  go_wp2_with (first
    | (go_at_call 20; ((with_reducible refine (alive14_any _).mono ?_); rintro e w1 ⟨rfl, hb1⟩; have P1 : ∀ o, w1.cell? ⟨w.heap.size, o, none⟩ = (#[.int .i64 x, .int .i64 y, .int .i64 z] : Array Value)[o]? := blk_later (by simp) hb1 (by (repeat (first | (with_reducible assumption) | (focus ((with_reducible refine new_at ?_ _ _); (repeat (first | (with_reducible rfl) | (with_reducible refine sz1 ?_))); done)) | (with_reducible refine blk_alloc (by simp) _ ?_) | (with_reducible refine blk_drew ?_)))); have N1 : ∀ o, w1.cell? ⟨w.heap.size + 1, o, none⟩ = (#[.int .i64 a, .int .i64 b, .int .i64 c] : Array Value)[o]? := blk_later (by simp) hb1 (by (repeat (first | (with_reducible assumption) | (focus ((with_reducible refine new_at ?_ _ _); (repeat (first | (with_reducible rfl) | (with_reducible refine sz1 ?_))); done)) | (with_reducible refine blk_alloc (by simp) _ ?_) | (with_reducible refine blk_drew ?_))))))
    | (go_at_call 21; ((with_reducible refine (L.out _).mono ?_); rintro e w2 ⟨rfl, hb2⟩; have P2 := blk_later (by simp) hb2 P1; have hs2 : w.heap.size < w2.heap.size := blk_lt (by simp) P2)))
  go_returns
  exact ⟨by simp, by (repeat' (first | (with_reducible exact Below.refl _ _) | (with_reducible refine bstep (by with_reducible assumption) ?_) | (with_reducible refine Below.alloc ?_ ?_ _) | (with_reducible refine Below.drew ?_) | (with_reducible refine below_drewN ?_ _) | (with_reducible refine Below.setCell ?_ ?_ _) | go_size))⟩
theorem near_yes (x y z a b c t h : Int) (hok : lfok x y z a b c t h = true) (w : World) :
    Calls Try.prog 6 #[V3 x y z, V3 a b c, .int .i64 t, .int .i64 h] w fun e w' => e = .returned (.bool true) ∧ Below w.heap.size w w' := by
  have hk := hok
  simp only [lfok, Bool.and_eq_true, decide_eq_true_eq, le_mn, mx_le] at hk
  obtain ⟨⟨⟨hp, hn⟩, ht0, hh0⟩, ht1, hh1⟩ := hk
  rw [inB_iff (by omega) (by omega)] at hp hn
  have ⟨_, l1, l2⟩ := lfh_le ht0 ht1 hh0 hh1
  have ⟨_, a1, a2⟩ := lfv_le hn.1 l1
  have ⟨_, b1, b2⟩ := lfv_le hn.2.1 l1
  have ⟨_, c1, c2⟩ := lfv_le hn.2.2 l1
  have z0 : t = 0 → lfh t h = 0 := fun e => by rw [e, lfh, Int.zero_mul]; exact rnd_zero _ (by omega)
  have z1 : t = 0 → rnd (a * lfh t h) 1024 = 0 ∧ rnd (b * lfh t h) 1024 = 0 ∧ rnd (c * lfh t h) 1024 = 0 := fun e => by rw [z0 e]; simp [rnd_zero]
  obtain ⟨p, ep⟩ : ∃ p, rnd (a * lfh t h) 1024 = p := ⟨_, rfl⟩
  obtain ⟨q, eq⟩ : ∃ p, rnd (b * lfh t h) 1024 = p := ⟨_, rfl⟩
  obtain ⟨r, er⟩ : ∃ p, rnd (c * lfh t h) 1024 = p := ⟨_, rfl⟩
  rw [ep] at a1 a2 z1
  rw [eq] at b1 b2 z1
  rw [er] at c1 c2 z1
  have L := Lib.hid (lift_is x y z a b c t h true (x + p) (y + q) (z + r) hok (by simp [lfv, ep]) (by simp [lfv, eq]) (by simp [lfv, er]))
  have S := fun w => rsub_any (x + p) (y + q) (z + r) x y z w
  rw [w64 (x := x + p - x) (by omega) (by omega), w64 (x := y + q - y) (by omega) (by omega), w64 (x := z + r - z) (by omega) (by omega), show x + p - x = p by omega, show y + q - y = q by omega, show z + r - z = r by omega] at S
  have S := Lib.hid S
  have Wi := Lib.hid (within_is (x := p) (y := q) (z := r) (m := h) (b := true) (by rw [inB_iff (by omega) (by omega)]; omega))
  clear hok ep eq er a1 a2 b1 b2 c1 c2 l1 l2 hp hn ht1 hh1 z0
  by_cases ht : t = 0
  · obtain ⟨rfl, rfl, rfl⟩ := z1 ht
    subst ht
    simp only [Int.add_zero] at L S
    clear z1
    go_enter Try.func6, Try.ntmps6
    go_wp2_with (first
      | (go_at_call 20; ((with_reducible refine (alive14_any _).mono ?_); rintro e w1 ⟨rfl, hb1⟩; have P1 : ∀ o, w1.cell? ⟨w.heap.size, o, none⟩ = (#[.int .i64 x, .int .i64 y, .int .i64 z] : Array Value)[o]? := blk_later (by simp) hb1 (by (repeat (first | (with_reducible assumption) | (focus ((with_reducible refine new_at ?_ _ _); (repeat (first | (with_reducible rfl) | (with_reducible refine sz1 ?_))); done)) | (with_reducible refine blk_alloc (by simp) _ ?_) | (with_reducible refine blk_drew ?_)))); have N1 : ∀ o, w1.cell? ⟨w.heap.size + 1, o, none⟩ = (#[.int .i64 a, .int .i64 b, .int .i64 c] : Array Value)[o]? := blk_later (by simp) hb1 (by (repeat (first | (with_reducible assumption) | (focus ((with_reducible refine new_at ?_ _ _); (repeat (first | (with_reducible rfl) | (with_reducible refine sz1 ?_))); done)) | (with_reducible refine blk_alloc (by simp) _ ?_) | (with_reducible refine blk_drew ?_))))))
      | (go_at_call 21; ((with_reducible refine (L.out _).mono ?_); rintro e w2 ⟨rfl, hb2⟩; have P2 := blk_later (by simp) hb2 P1; have hs2 : w.heap.size < w2.heap.size := blk_lt (by simp) P2))
      | (go_at_call 22; ((with_reducible refine (S.out _).mono ?_); rintro e w3 ⟨rfl, hb3⟩; have P3 : ∀ o, w3.cell? ⟨w.heap.size, o, none⟩ = (#[.int .i64 x, .int .i64 y, .int .i64 z] : Array Value)[o]? := blk_later (by simp) hb3 (by (repeat (first | (with_reducible assumption) | (focus ((with_reducible refine new_at ?_ _ _); (repeat (first | (with_reducible rfl) | (with_reducible refine sz1 ?_))); done)) | (with_reducible refine blk_alloc (by simp) _ ?_) | (with_reducible refine blk_drew ?_)))); have Q3 : ∀ o, w3.cell? ⟨w2.heap.size, o, none⟩ = (#[.int .i64 x, .int .i64 y, .int .i64 z] : Array Value)[o]? := blk_later (by simp) hb3 (by (repeat (first | (with_reducible assumption) | (focus ((with_reducible refine new_at ?_ _ _); (repeat (first | (with_reducible rfl) | (with_reducible refine sz1 ?_))); done)) | (with_reducible refine blk_alloc (by simp) _ ?_) | (with_reducible refine blk_drew ?_))))))
      | (go_at_call 18; ((with_reducible refine (Wi.out _).mono ?_); rintro e w4 ⟨rfl, hb4⟩; have P4 := blk_later (by simp) hb4 P3; have Q4 := blk_later (by simp) hb4 Q3)))
    go_returns
    exact ⟨by simp, by (repeat' (first | (with_reducible exact Below.refl _ _) | (with_reducible refine bstep (by with_reducible assumption) ?_) | (with_reducible refine Below.alloc ?_ ?_ _) | (with_reducible refine Below.drew ?_) | (with_reducible refine below_drewN ?_ _) | (with_reducible refine Below.setCell ?_ ?_ _) | go_size))⟩
  · clear z1
    go_enter Try.func6, Try.ntmps6
    go_wp2_with (first
      | (go_at_call 20; ((with_reducible refine (alive14_any _).mono ?_); rintro e w1 ⟨rfl, hb1⟩; have P1 : ∀ o, w1.cell? ⟨w.heap.size, o, none⟩ = (#[.int .i64 x, .int .i64 y, .int .i64 z] : Array Value)[o]? := blk_later (by simp) hb1 (by (repeat (first | (with_reducible assumption) | (focus ((with_reducible refine new_at ?_ _ _); (repeat (first | (with_reducible rfl) | (with_reducible refine sz1 ?_))); done)) | (with_reducible refine blk_alloc (by simp) _ ?_) | (with_reducible refine blk_drew ?_)))); have N1 : ∀ o, w1.cell? ⟨w.heap.size + 1, o, none⟩ = (#[.int .i64 a, .int .i64 b, .int .i64 c] : Array Value)[o]? := blk_later (by simp) hb1 (by (repeat (first | (with_reducible assumption) | (focus ((with_reducible refine new_at ?_ _ _); (repeat (first | (with_reducible rfl) | (with_reducible refine sz1 ?_))); done)) | (with_reducible refine blk_alloc (by simp) _ ?_) | (with_reducible refine blk_drew ?_))))))
      | (go_at_call 21; ((with_reducible refine (L.out _).mono ?_); rintro e w2 ⟨rfl, hb2⟩; have P2 := blk_later (by simp) hb2 P1; have hs2 : w.heap.size < w2.heap.size := blk_lt (by simp) P2))
      | (go_at_call 22; ((with_reducible refine (S.out _).mono ?_); rintro e w3 ⟨rfl, hb3⟩; have P3 : ∀ o, w3.cell? ⟨w.heap.size, o, none⟩ = (#[.int .i64 x, .int .i64 y, .int .i64 z] : Array Value)[o]? := blk_later (by simp) hb3 (by (repeat (first | (with_reducible assumption) | (focus ((with_reducible refine new_at ?_ _ _); (repeat (first | (with_reducible rfl) | (with_reducible refine sz1 ?_))); done)) | (with_reducible refine blk_alloc (by simp) _ ?_) | (with_reducible refine blk_drew ?_)))); have Q3 : ∀ o, w3.cell? ⟨w2.heap.size, o, none⟩ = (#[.int .i64 (x + p), .int .i64 (y + q), .int .i64 (z + r)] : Array Value)[o]? := blk_later (by simp) hb3 (by (repeat (first | (with_reducible assumption) | (focus ((with_reducible refine new_at ?_ _ _); (repeat (first | (with_reducible rfl) | (with_reducible refine sz1 ?_))); done)) | (with_reducible refine blk_alloc (by simp) _ ?_) | (with_reducible refine blk_drew ?_))))))
      | (go_at_call 18; ((with_reducible refine (Wi.out _).mono ?_); rintro e w4 ⟨rfl, hb4⟩; have P4 := blk_later (by simp) hb4 P3; have Q4 := blk_later (by simp) hb4 Q3)))
    go_returns
    exact ⟨by simp [*], by (repeat' (first | (with_reducible exact Below.refl _ _) | (with_reducible refine bstep (by with_reducible assumption) ?_) | (with_reducible refine Below.alloc ?_ ?_ _) | (with_reducible refine Below.drew ?_) | (with_reducible refine below_drewN ?_ _) | (with_reducible refine Below.setCell ?_ ?_ _) | go_size))⟩
theorem reliefNear_walk (x y z : Int) (_ : I64 x) (_ : I64 y) (_ : I64 z) (a b c : Int) (_ : I64 a) (_ : I64 b) (_ : I64 c) (t : Int) (_ : I64 t) (h : Int) (_ : I64 h) (w : World) :
    Calls Try.prog 6 #[V3 x y z, V3 a b c, .int .i64 t, .int .i64 h] w fun e w' => e = .returned (.bool true) ∧ Below w.heap.size w w' := by
  cases hok : lfok x y z a b c t h
  · exact near_no x y z a b c t h hok w
  · exact near_yes x y z a b c t h hok w
end Go.Proofs.Ytdemcleibpgglaa
