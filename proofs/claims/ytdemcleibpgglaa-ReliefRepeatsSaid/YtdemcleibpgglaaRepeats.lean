/- The law on textures that go on and on, walked: for all textures, points and numbers of 64 bits it answers true. -/
import Derived.Test.YtdemcleibpgglaaAlive14
namespace Go.Proofs.Ytdemcleibpgglaa
open Go.RowKit
set_option maxRecDepth 100000
set_option linter.unusedSimpArgs false
set_option linter.unusedVariables false
theorem rep_far (s v : Value) (tw th : Int) (zs : List Int) (x y z k : Int) (hk : ((2000 < zs.length ∨ k < -100) ∨ 100 < k)) (w : World) (hv : Ints w v zs) :
    Calls Try.prog 7 #[.agg #[s, .int .i64 tw, .int .i64 th, v], V3 x y z, .int .i64 k] w fun e w' => e = .returned (.bool true) ∧ Below w.heap.size w w' := by
  obtain ⟨p, n, c, rfl, hn⟩ : ∃ p n c, v = .slice p n c ∧ zs.length = n := by
    rcases hv with ⟨rfl, p, c, rfl⟩ | ⟨b, off, c, rfl, _⟩
    · exact ⟨p, 0, c, rfl, rfl⟩
    · exact ⟨_, _, c, rfl, rfl⟩
  rw [hn] at hk
  clear hv hn
  have e1 : decide ((2000 : Int) < (n : Int)) = decide (2000 < n) := by rw [decide_eq_decide]; omega
  cases c1 : decide ((2000 : Int) < (n : Int)) <;> cases c2 : decide (k < -100) <;> cases c3 : decide (100 < k) <;> first
    | (exfalso; rw [e1] at c1; simp only [decide_eq_false_iff_not] at c1 c2 c3; omega)
    | (clear hk e1
       go_enter Try.func7, Try.ntmps7
       go_wp2_with (go_at_call 20; ((with_reducible refine (alive14_any _).mono ?_); rintro e w1 ⟨rfl, hb1⟩; have T1 : ∀ o, w1.cell? ⟨w.heap.size, o, none⟩ = (#[s, .int .i64 tw, .int .i64 th, .slice p n c] : Array Value)[o]? := blk_later (by simp) hb1 (by (repeat (first | (with_reducible assumption) | (focus ((with_reducible refine new_at ?_ _ _); (repeat (first | (with_reducible rfl) | (with_reducible refine sz1 ?_))); done)) | (with_reducible refine blk_alloc (by simp) _ ?_) | (with_reducible refine blk_drew ?_))))))
       go_returns
       exact ⟨by simp, by (repeat' (first | (with_reducible exact Below.refl _ _) | (with_reducible refine bstep (by with_reducible assumption) ?_) | (with_reducible refine Below.alloc ?_ ?_ _) | (with_reducible refine Below.drew ?_) | (with_reducible refine below_drewN ?_ _) | (with_reducible refine Below.setCell ?_ ?_ _) | go_size))⟩)
theorem getD_range {zs : List Int} (h0 : 0 ≤ Lib.minOf zs) (h1 : Lib.maxOf zs ≤ 255) (k : Nat) : 0 ≤ zs.getD k 0 ∧ zs.getD k 0 ≤ 255 := by
  rcases Nat.lt_or_ge k zs.length with h | h
  · have e : zs.getD k 0 = zs[k] := by simp [List.getD, h]
    rw [e]
    exact ⟨(le_minOf (by omega) 0).1 h0 _ (List.getElem_mem h), (maxOf_le (by omega) 255).1 h1 _ (List.getElem_mem h)⟩
  · have e : zs.getD k 0 = 0 := by simp [List.getD, h]
    rw [e]; omega
set_option maxHeartbeats 4000000 in
theorem rep_near (s v : Value) (tw th : Int) (zs : List Int) (x y z k : Int) (hz : zs.length ≤ 2000) (hk0 : -100 ≤ k) (hk1 : k ≤ 100) (w : World) (hv : Ints w v zs) :
    Calls Try.prog 7 #[.agg #[s, .int .i64 tw, .int .i64 th, v], V3 x y z, .int .i64 k] w fun e w' => e = .returned (.bool true) ∧ Below w.heap.size w w' := by
  have hlater : ∀ w', Below w.heap.size w w' → Ints w' v zs := by
    intro w' hb
    rcases hv with h | ⟨bl, off, c, h1, h2, h3, h4, h5, h6⟩
    · exact .inl h
    · exact .inr ⟨bl, off, c, h1, h2, h3, h4, by have := hb.size; omega, fun j hj => (hb.cell (p := ⟨bl, off + j, none⟩) h5).trans (h6 j hj)⟩
  obtain ⟨p, n, c, hvv, hn⟩ : ∃ p n c, v = .slice p n c ∧ zs.length = n := by
    rcases hv with ⟨rfl, p, c, rfl⟩ | ⟨b, off, c, rfl, _⟩
    · exact ⟨p, 0, c, rfl, rfl⟩
    · exact ⟨_, _, c, rfl, rfl⟩
  have d1 : decide ((2000 : Int) < (n : Int)) = false := decide_eq_false (by omega)
  have d2 : decide (k < -100) = false := decide_eq_false (by omega)
  have d3 : decide (100 < k) = false := decide_eq_false (by omega)
  have T0 := fun w' hb => texel_is s v tw th zs x y z _ _ rfl rfl w' (hlater w' hb)
  cases hok : texok tw th zs x y z
  · rw [hok] at T0
    have T0 := Lib.hid T0
    subst hvv
    clear hok hlater hv hn hz hk0 hk1
    go_enter Try.func7, Try.ntmps7
    go_wp2_with (first
      | (go_at_call 20; ((with_reducible refine (alive14_any _).mono ?_); rintro e w1 ⟨rfl, hb1⟩; have T1 : ∀ o, w1.cell? ⟨w.heap.size, o, none⟩ = (#[s, .int .i64 tw, .int .i64 th, .slice p n c] : Array Value)[o]? := blk_later (by simp) hb1 (by (repeat (first | (with_reducible assumption) | (focus ((with_reducible refine new_at ?_ _ _); (repeat (first | (with_reducible rfl) | (with_reducible refine sz1 ?_))); done)) | (with_reducible refine blk_alloc (by simp) _ ?_) | (with_reducible refine blk_drew ?_)))); have P1 : ∀ o, w1.cell? ⟨w.heap.size + 1, o, none⟩ = (#[.int .i64 x, .int .i64 y, .int .i64 z] : Array Value)[o]? := blk_later (by simp) hb1 (by (repeat (first | (with_reducible assumption) | (focus ((with_reducible refine new_at ?_ _ _); (repeat (first | (with_reducible rfl) | (with_reducible refine sz1 ?_))); done)) | (with_reducible refine blk_alloc (by simp) _ ?_) | (with_reducible refine blk_drew ?_))))))
      | (go_at_call 23; ((refine (T0.out _ (by (repeat' (first | (with_reducible exact Below.refl _ _) | (with_reducible refine bstep (by with_reducible assumption) ?_) | (with_reducible refine Below.alloc ?_ ?_ _) | (with_reducible refine Below.drew ?_) | (with_reducible refine below_drewN ?_ _) | (with_reducible refine Below.setCell ?_ ?_ _) | go_size)))).mono ?_); rintro e w2 ⟨rfl, hb2⟩)))
    go_returns
    exact ⟨by simp [txv], by (repeat' (first | (with_reducible exact Below.refl _ _) | (with_reducible refine bstep (by with_reducible assumption) ?_) | (with_reducible refine Below.alloc ?_ ?_ _) | (with_reducible refine Below.drew ?_) | (with_reducible refine below_drewN ?_ _) | (with_reducible refine Below.setCell ?_ ?_ _) | go_size))⟩
  rw [hok] at T0
  have hr := hok
  simp only [texok, Bool.and_eq_true] at hr
  obtain ⟨hr, hp⟩ := hr
  rw [inB_iff (by omega) (by omega)] at hp
  simp only [rightB, Bool.and_eq_true, decide_eq_true_eq] at hr
  obtain ⟨⟨⟨⟨⟨⟨r1, r2⟩, r3⟩, r4⟩, _⟩, r6⟩, r7⟩ := hr
  have rg : 0 ≤ txv true tw th zs x y z ∧ txv true tw th zs x y z ≤ 255 := getD_range r6 r7 _
  obtain ⟨m1, em1⟩ : ∃ m, 16 * tw = m := ⟨_, rfl⟩
  obtain ⟨n1, en1⟩ : ∃ m, 16 * th = m := ⟨_, rfl⟩
  have bm1 := Int.mul_le_mul_of_nonneg_left hk0 (show 0 ≤ m1 by omega)
  have bm2 := Int.mul_le_mul_of_nonneg_left hk1 (show 0 ≤ m1 by omega)
  have bn1 := Int.mul_le_mul_of_nonneg_left hk0 (show 0 ≤ n1 by omega)
  have bn2 := Int.mul_le_mul_of_nonneg_left hk1 (show 0 ≤ n1 by omega)
  have q1 : txi tw th (x + m1 * k) y z = txi tw th x y z := by unfold txi; rw [← em1, stp_add _ _ _ (by omega)]
  have q2 : txi tw th x (y + n1 * k) z = txi tw th x y z := by unfold txi; rw [← en1, show y + 16 * th * k + z = y + z + 16 * th * k by omega, stp_add _ _ _ (by omega)]
  have q3 : txi tw th x (y + k) (z + -k) = txi tw th x y z := by unfold txi; rw [show y + k + (z + -k) = y + z by omega]
  obtain ⟨m2, em2⟩ : ∃ m, m1 * k = m := ⟨_, rfl⟩
  obtain ⟨n2, en2⟩ : ∃ m, n1 * k = m := ⟨_, rfl⟩
  rw [em2] at bm1 bm2 q1
  rw [en2] at bn1 bn2 q2
  have f1 : IntKind.i64.wrap (16 * tw) = m1 := by rw [em1]; exact IntWalk.i64_in _ (by omega)
  have f2 : IntKind.i64.wrap (m1 * k) = m2 := by rw [em2]; exact IntWalk.i64_in _ (by omega)
  have f3 : IntKind.i64.wrap (16 * th) = n1 := by rw [en1]; exact IntWalk.i64_in _ (by omega)
  have f4 : IntKind.i64.wrap (n1 * k) = n2 := by rw [en2]; exact IntWalk.i64_in _ (by omega)
  have f5 : IntKind.i64.wrap (-k) = -k := IntWalk.i64_in _ (by omega)
  have A1 := fun w => radd_any x y z m2 0 0 w
  have A2 := fun w => radd_any x y z 0 n2 0 w
  have A3 := fun w => radd_any x y z 0 k (-k) w
  have e0 : wrap64 (x + 0) = x := by rw [Int.add_zero]; exact w64 (by omega) (by omega)
  have e1 : wrap64 (y + 0) = y := by rw [Int.add_zero]; exact w64 (by omega) (by omega)
  have e2 : wrap64 (z + 0) = z := by rw [Int.add_zero]; exact w64 (by omega) (by omega)
  rw [w64 (x := x + m2) (by omega) (by omega), e1, e2] at A1
  rw [w64 (x := y + n2) (by omega) (by omega), e0, e2] at A2
  rw [w64 (x := y + k) (by omega) (by omega), w64 (x := z + -k) (by omega) (by omega), e0] at A3
  obtain ⟨ok1, b1, h1, T1⟩ : ∃ (ok1 : Bool) (b1 : Int), (ok1 = true → txv true tw th zs x y z = b1) ∧ ∀ w', Below w.heap.size w w' → Calls Try.prog 23 #[.agg #[s, .int .i64 tw, .int .i64 th, v], V3 (x + m2) y z] w' fun e w'' => e = .returned (.tuple #[.int .i64 b1, .bool ok1]) ∧ Below w'.heap.size w' w'' :=
    ⟨_, _, fun h => by rw [h]; unfold txv; rw [q1], fun w' hb => texel_is s v tw th zs (x + m2) y z _ _ rfl rfl w' (hlater w' hb)⟩
  obtain ⟨ok2, b2, h2, T2⟩ : ∃ (ok1 : Bool) (b1 : Int), (ok1 = true → txv true tw th zs x y z = b1) ∧ ∀ w', Below w.heap.size w w' → Calls Try.prog 23 #[.agg #[s, .int .i64 tw, .int .i64 th, v], V3 x (y + n2) z] w' fun e w'' => e = .returned (.tuple #[.int .i64 b1, .bool ok1]) ∧ Below w'.heap.size w' w'' :=
    ⟨_, _, fun h => by rw [h]; unfold txv; rw [q2], fun w' hb => texel_is s v tw th zs x (y + n2) z _ _ rfl rfl w' (hlater w' hb)⟩
  obtain ⟨ok3, b3, h3, T3⟩ : ∃ (ok1 : Bool) (b1 : Int), (ok1 = true → txv true tw th zs x y z = b1) ∧ ∀ w', Below w.heap.size w w' → Calls Try.prog 23 #[.agg #[s, .int .i64 tw, .int .i64 th, v], V3 x (y + k) (z + -k)] w' fun e w'' => e = .returned (.tuple #[.int .i64 b1, .bool ok1]) ∧ Below w'.heap.size w' w'' :=
    ⟨_, _, fun h => by rw [h]; unfold txv; rw [q3], fun w' hb => texel_is s v tw th zs x (y + k) (z + -k) _ _ rfl rfl w' (hlater w' hb)⟩
  obtain ⟨a, ea⟩ : ∃ a, txv true tw th zs x y z = a := ⟨_, rfl⟩
  rw [ea] at h1 h2 h3 T0 rg
  have g1 : decide (0 ≤ a) = true := decide_eq_true rg.1
  have g2 : decide (a ≤ 255) = true := decide_eq_true rg.2
  obtain ⟨x1, ex1⟩ : ∃ m, x + m2 = m := ⟨_, rfl⟩
  obtain ⟨y1, ey1⟩ : ∃ m, y + n2 = m := ⟨_, rfl⟩
  obtain ⟨y2, ey2⟩ : ∃ m, y + k = m := ⟨_, rfl⟩
  obtain ⟨z2, ez2⟩ : ∃ m, z + -k = m := ⟨_, rfl⟩
  rw [ex1] at A1 T1
  rw [ey1] at A2 T2
  rw [ey2, ez2] at A3 T3
  subst hvv
  have T0 := Lib.hid T0
  have T1 := Lib.hid T1
  have T2 := Lib.hid T2
  have T3 := Lib.hid T3
  have A1 := Lib.hid A1
  have A2 := Lib.hid A2
  have A3 := Lib.hid A3
  clear hok hlater hv hn hz hk0 hk1 r1 r2 r3 r4 r6 r7 hp em1 en1 em2 en2 bm1 bm2 bn1 bn2 q1 q2 q3 e0 e1 e2 ea ex1 ey1 ey2 ez2
  go_enter Try.func7, Try.ntmps7
  go_wp2_with (first
    | (go_at_call 20; ((with_reducible refine (alive14_any _).mono ?_); rintro e w1 ⟨rfl, hb1⟩; have C1 : ∀ o, w1.cell? ⟨w.heap.size, o, none⟩ = (#[s, .int .i64 tw, .int .i64 th, .slice p n c] : Array Value)[o]? := blk_later (by simp) hb1 (by (repeat (first | (with_reducible assumption) | (focus ((with_reducible refine new_at ?_ _ _); (repeat (first | (with_reducible rfl) | (with_reducible refine sz1 ?_))); done)) | (with_reducible refine blk_alloc (by simp) _ ?_) | (with_reducible refine blk_drew ?_)))); have P1 : ∀ o, w1.cell? ⟨w.heap.size + 1, o, none⟩ = (#[.int .i64 x, .int .i64 y, .int .i64 z] : Array Value)[o]? := blk_later (by simp) hb1 (by (repeat (first | (with_reducible assumption) | (focus ((with_reducible refine new_at ?_ _ _); (repeat (first | (with_reducible rfl) | (with_reducible refine sz1 ?_))); done)) | (with_reducible refine blk_alloc (by simp) _ ?_) | (with_reducible refine blk_drew ?_))))))
    | (go_at_call 23; ((refine (T0.out _ (by (repeat' (first | (with_reducible exact Below.refl _ _) | (with_reducible refine bstep (by with_reducible assumption) ?_) | (with_reducible refine Below.alloc ?_ ?_ _) | (with_reducible refine Below.drew ?_) | (with_reducible refine below_drewN ?_ _) | (with_reducible refine Below.setCell ?_ ?_ _) | go_size)))).mono ?_); rintro e w2 ⟨rfl, hb2⟩; have C2 := blk_later (by simp) hb2 C1; have P2 := blk_later (by simp) hb2 P1; clear C1 P1)))
  go_region_held3 (fun w' => (∀ o, w'.cell? ⟨w.heap.size, o, none⟩ = (#[s, .int .i64 tw, .int .i64 th, .slice p n c] : Array Value)[o]?) ∧ (∀ o, w'.cell? ⟨w.heap.size + 1, o, none⟩ = (#[.int .i64 x, .int .i64 y, .int .i64 z] : Array Value)[o]?)) (((first | (go_split_ands; skip) | skip); (repeat' apply And.intro) <;> (first | assumption | (with_reducible exact blk_drew (by assumption)) | (with_reducible exact blk_later (by simp) (by assumption) (by assumption)))))
    (first
      | (go_at_call 19; ((with_reducible refine (A1.out _).mono ?_); rintro e w3 ⟨rfl, hb3⟩))
      | (go_at_call 23; ((refine (T1.out _ (by (repeat' (first | (with_reducible exact Below.refl _ _) | (with_reducible refine bstep (by with_reducible assumption) ?_) | (with_reducible refine Below.alloc ?_ ?_ _) | (with_reducible refine Below.drew ?_) | (with_reducible refine below_drewN ?_ _) | (with_reducible refine Below.setCell ?_ ?_ _) | go_size)))).mono ?_); rintro e w4 ⟨rfl, hb4⟩)))
  all_goals
    go_wp2_with fail
    go_region_held3 (fun w' => (∀ o, w'.cell? ⟨w.heap.size, o, none⟩ = (#[s, .int .i64 tw, .int .i64 th, .slice p n c] : Array Value)[o]?) ∧ (∀ o, w'.cell? ⟨w.heap.size + 1, o, none⟩ = (#[.int .i64 x, .int .i64 y, .int .i64 z] : Array Value)[o]?)) (((first | (go_split_ands; skip) | skip); (repeat' apply And.intro) <;> (first | assumption | (with_reducible exact blk_drew (by assumption)) | (with_reducible exact blk_later (by simp) (by assumption) (by assumption)))))
      (first
        | (go_at_call 19; ((with_reducible refine (A2.out _).mono ?_); rintro e w5 ⟨rfl, hb5⟩))
        | (go_at_call 23; ((refine (T2.out _ (by (repeat' (first | (with_reducible exact Below.refl _ _) | (with_reducible refine bstep (by with_reducible assumption) ?_) | (with_reducible refine Below.alloc ?_ ?_ _) | (with_reducible refine Below.drew ?_) | (with_reducible refine below_drewN ?_ _) | (with_reducible refine Below.setCell ?_ ?_ _) | go_size)))).mono ?_); rintro e w6 ⟨rfl, hb6⟩)))
  all_goals
    go_wp2_with fail
    go_region_held3 (fun w' => (∀ o, w'.cell? ⟨w.heap.size, o, none⟩ = (#[s, .int .i64 tw, .int .i64 th, .slice p n c] : Array Value)[o]?) ∧ (∀ o, w'.cell? ⟨w.heap.size + 1, o, none⟩ = (#[.int .i64 x, .int .i64 y, .int .i64 z] : Array Value)[o]?)) (((first | (go_split_ands; skip) | skip); (repeat' apply And.intro) <;> (first | assumption | (with_reducible exact blk_drew (by assumption)) | (with_reducible exact blk_later (by simp) (by assumption) (by assumption)))))
      (first
        | (go_at_call 19; ((with_reducible refine (A3.out _).mono ?_); rintro e w7 ⟨rfl, hb7⟩))
        | (go_at_call 23; ((refine (T3.out _ (by (repeat' (first | (with_reducible exact Below.refl _ _) | (with_reducible refine bstep (by with_reducible assumption) ?_) | (with_reducible refine Below.alloc ?_ ?_ _) | (with_reducible refine Below.drew ?_) | (with_reducible refine below_drewN ?_ _) | (with_reducible refine Below.setCell ?_ ?_ _) | go_size)))).mono ?_); rintro e w8 ⟨rfl, hb8⟩)))
  all_goals
    go_wp2_with fail
  all_goals
    first | (have i1 := h1 (by assumption)) | skip
    first | (have i2 := h2 (by assumption)) | skip
    first | (have i3 := h3 (by assumption)) | skip
    first | (exfalso; omega) | (go_returns; exact ⟨by first | (simp; done) | (simp; omega), by (repeat' (first | (with_reducible exact Below.refl _ _) | (with_reducible refine bstep (by with_reducible assumption) ?_) | (with_reducible refine Below.alloc ?_ ?_ _) | (with_reducible refine Below.drew ?_) | (with_reducible refine below_drewN ?_ _) | (with_reducible refine Below.setCell ?_ ?_ _) | go_size))⟩)
theorem reliefRepeats_walk (s v : Value) (tw th : Int) (zs : List Int) (_ : I64 tw) (_ : I64 th) (_ : ∀ z ∈ zs, I64 z) (x y z : Int) (_ : I64 x) (_ : I64 y) (_ : I64 z) (k : Int) (_ : I64 k) (w : World) (hv : Ints w v zs) :
    Calls Try.prog 7 #[.agg #[s, .int .i64 tw, .int .i64 th, v], V3 x y z, .int .i64 k] w fun e w' => e = .returned (.bool true) ∧ Below w.heap.size w w' := by
  by_cases h : (2000 < zs.length ∨ k < -100) ∨ 100 < k
  · exact rep_far s v tw th zs x y z k h w hv
  · exact rep_near s v tw th zs x y z k (by omega) (by omega) (by omega) w hv
end Go.Proofs.Ytdemcleibpgglaa
