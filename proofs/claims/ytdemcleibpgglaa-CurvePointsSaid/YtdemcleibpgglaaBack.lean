/- The law on curves told backwards, walked: for all points and numbers of 64 bits it answers true. -/
import Derived.Test.YtdemcleibpgglaaCurve
import Derived.Test.YtdemcleibpgglaaCurvePlain
namespace Go.Proofs.Ytdemcleibpgglaa
open Go.RowKit
set_option maxRecDepth 100000
set_option linter.unusedSimpArgs false
set_option linter.unusedVariables false
theorem alive11_any (w : World) : Calls Try.prog 16 #[] w fun e w' => e = .returned (.bool true) ∧ Below w.heap.size w w' := by
  have K := Lib.hid (cubic_is 0 0 0 3 0 0 6 0 0 9 0 0 1 3 true 3 0 0 (by simp [okC, there, inB, mx, mn, wrap64]) (by decide) (by decide) (by decide))
  have L := Lib.hid (cubic_is 0 0 0 0 0 0 0 0 0 0 0 0 1 0 false 0 0 0 (by simp [okC, there]) rfl rfl rfl)
  go_enter Try.func16, Try.ntmps16
  go_wp2_with (first
    | (go_at_call 17; ((with_reducible refine (K.out _).mono ?_); rintro e w1 ⟨rfl, hb1⟩; have hl1 : w.heap.size ≤ w1.heap.size := hb1.size))
    | (go_at_call 17; ((with_reducible refine (L.out _).mono ?_); rintro e w2 ⟨rfl, hb2⟩; have A2 : ∀ o, w2.cell? ⟨w1.heap.size, o, none⟩ = (#[.int .i64 3, .int .i64 0, .int .i64 0] : Array Value)[o]? := blk_later (by simp) hb2 (by (repeat (first | (with_reducible assumption) | (focus ((with_reducible refine new_at ?_ _ _); (repeat (first | (with_reducible rfl) | (with_reducible refine sz1 ?_))); done)) | (with_reducible refine blk_alloc (by simp) _ ?_) | (with_reducible refine blk_drew ?_)))); have hl2 : w1.heap.size < w2.heap.size := blk_lt (by simp) A2)))
  go_returns
  exact ⟨by simp, by (repeat' (first | (with_reducible exact Below.refl _ _) | (with_reducible refine bstep (by with_reducible assumption) ?_) | (with_reducible refine Below.alloc ?_ ?_ _) | (with_reducible refine Below.drew ?_) | (with_reducible refine below_drewN ?_ _) | (with_reducible refine Below.setCell ?_ ?_ _) | go_size))⟩
theorem there_back {i n : Int} (hi : I64 i) (hn : I64 n) : there (wrap64 (n - i)) n = there i n := by
  rw [Bool.eq_iff_iff, there_iff, there_iff]
  unfold I64 at hi hn
  unfold wrap64
  omega
theorem okC_back (x0 y0 z0 x1 y1 z1 x2 y2 z2 x3 y3 z3 : Int) {i n : Int} (hi : I64 i) (hn : I64 n) : okC x3 y3 z3 x2 y2 z2 x1 y1 z1 x0 y0 z0 (wrap64 (n - i)) n = okC x0 y0 z0 x1 y1 z1 x2 y2 z2 x3 y3 z3 i n := by
  unfold okC
  rw [there_back hi hn]
  cases there i n <;> cases inB x0 y0 z0 65536 <;> cases inB x1 y1 z1 65536 <;> cases inB x2 y2 z2 65536 <;> cases inB x3 y3 z3 65536 <;> rfl
theorem cubv_back (a b c d i n : Int) : cubv d c b a (n - i) n = cubv a b c d i n := by
  obtain ⟨e0, e1, e2, e3⟩ := wt_back i n
  unfold cubv
  rw [e0, e1, e2, e3]
  congr 1
  omega
theorem cubv_0 (a b c d n : Int) (hn : 1 ≤ n) : cubv a b c d 0 n = a := by
  have e : a * wt0 0 n + b * wt1 0 n + c * wt2 0 n + d * wt3 0 n = a * (n * n * n) := by unfold wt0 wt1 wt2 wt3; grind
  rw [cubv, e]
  exact rnd_mul _ _ (by have := cube_pos hn; omega)
theorem cubv_n (a b c d n : Int) (hn : 1 ≤ n) : cubv a b c d n n = d := by
  have e : a * wt0 n n + b * wt1 n n + c * wt2 n n + d * wt3 n n = d * (n * n * n) := by unfold wt0 wt1 wt2 wt3; grind
  rw [cubv, e]
  exact rnd_mul _ _ (by have := cube_pos hn; omega)
theorem back_no (x0 y0 z0 x1 y1 z1 x2 y2 z2 x3 y3 z3 i n : Int) (hi : I64 i) (hn : I64 n) (h : okC x0 y0 z0 x1 y1 z1 x2 y2 z2 x3 y3 z3 i n = false) (w : World) :
    Calls Try.prog 3 #[.agg (C12 x0 y0 z0 x1 y1 z1 x2 y2 z2 x3 y3 z3), .int .i64 i, .int .i64 n] w fun e w' => e = .returned (.bool true) ∧ Below w.heap.size w w' := by
  have h' := okC_back x0 y0 z0 x1 y1 z1 x2 y2 z2 x3 y3 z3 hi hn
  rw [h] at h'
  have K := Lib.hid (cubic_is x0 y0 z0 x1 y1 z1 x2 y2 z2 x3 y3 z3 i n false 0 0 0 h rfl rfl rfl)
  have L := Lib.hid (cubic_is x3 y3 z3 x2 y2 z2 x1 y1 z1 x0 y0 z0 (wrap64 (n - i)) n false 0 0 0 h' rfl rfl rfl)
  clear h h' hi hn
  go_enter Try.func3, Try.ntmps3
  go_wp2_with (first
    | (go_at_call 16; ((with_reducible refine (alive11_any _).mono ?_); rintro e w1 ⟨rfl, hb1⟩; have A1 : ∀ o, w1.cell? ⟨w.heap.size, o, none⟩ = (C12 x0 y0 z0 x1 y1 z1 x2 y2 z2 x3 y3 z3)[o]? := blk_later (by simp) hb1 (by (repeat (first | (with_reducible assumption) | (focus ((with_reducible refine new_at ?_ _ _); (repeat (first | (with_reducible rfl) | (with_reducible refine sz1 ?_))); done)) | (with_reducible refine blk_alloc (by simp) _ ?_) | (with_reducible refine blk_drew ?_))))))
    | (go_at_call 17; ((with_reducible refine (K.out _).mono ?_); rintro e w2 ⟨rfl, hb2⟩; have A2 := blk_later (by simp) hb2 A1; have hs2 : w.heap.size < w2.heap.size := blk_lt (by simp) A2))
    | (go_at_call 17; ((with_reducible refine (L.out _).mono ?_); rintro e w3 ⟨rfl, hb3⟩; have B3 : ∀ o, w3.cell? ⟨w2.heap.size, o, none⟩ = (#[.int .i64 0, .int .i64 0, .int .i64 0] : Array Value)[o]? := blk_later (by simp) hb3 (by (repeat (first | (with_reducible assumption) | (focus ((with_reducible refine new_at ?_ _ _); (repeat (first | (with_reducible rfl) | (with_reducible refine sz1 ?_))); done)) | (with_reducible refine blk_alloc (by simp) _ ?_) | (with_reducible refine blk_drew ?_)))); have hs3 : w2.heap.size < w3.heap.size := blk_lt (by simp) B3; have hs4 : w.heap.size < w3.heap.size := by omega)))
  go_returns
  exact ⟨by simp, by (repeat' (first | (with_reducible exact Below.refl _ _) | (with_reducible refine bstep (by with_reducible assumption) ?_) | (with_reducible refine Below.alloc ?_ ?_ _) | (with_reducible refine Below.drew ?_) | (with_reducible refine below_drewN ?_ _) | (with_reducible refine Below.setCell ?_ ?_ _) | go_size))⟩
set_option maxHeartbeats 2000000 in
theorem back_yes (x0 y0 z0 x1 y1 z1 x2 y2 z2 x3 y3 z3 i n : Int) (hi : I64 i) (hn : I64 n) (h : okC x0 y0 z0 x1 y1 z1 x2 y2 z2 x3 y3 z3 i n = true) (w : World) :
    Calls Try.prog 3 #[.agg (C12 x0 y0 z0 x1 y1 z1 x2 y2 z2 x3 y3 z3), .int .i64 i, .int .i64 n] w fun e w' => e = .returned (.bool true) ∧ Below w.heap.size w w' := by
  have h' := okC_back x0 y0 z0 x1 y1 z1 x2 y2 z2 x3 y3 z3 hi hn
  rw [h] at h'
  have ht : there i n = true := by
    simp only [okC, Bool.and_eq_true] at h
    exact h.1.1.1.1
  rw [there_iff] at ht
  obtain ⟨t1, t2, t3, t4⟩ := ht
  have e : wrap64 (n - i) = n - i := w64 (by omega) (by omega)
  have K := cubic_is x0 y0 z0 x1 y1 z1 x2 y2 z2 x3 y3 z3 i n true _ _ _ h rfl rfl rfl
  have L := cubic_is x3 y3 z3 x2 y2 z2 x1 y1 z1 x0 y0 z0 (wrap64 (n - i)) n true (cubv x0 x1 x2 x3 i n) (cubv y0 y1 y2 y3 i n) (cubv z0 z1 z2 z3 i n) h' (by rw [e]; exact cubv_back _ _ _ _ _ _) (by rw [e]; exact cubv_back _ _ _ _ _ _) (by rw [e]; exact cubv_back _ _ _ _ _ _)
  simp only [cub, if_true] at K
  by_cases i0 : i = 0
  · subst i0
    rw [cubv_0 _ _ _ _ _ t1, cubv_0 _ _ _ _ _ t1, cubv_0 _ _ _ _ _ t1] at K L
    have K := Lib.hid K
    have L := Lib.hid (fun (j : Int) (hj : j = wrap64 (n - 0)) => by rw [hj]; exact L : ∀ j : Int, j = wrap64 (n - 0) → ∀ w, Calls Try.prog 17 #[.agg (C12 x3 y3 z3 x2 y2 z2 x1 y1 z1 x0 y0 z0), .int .i64 j, .int .i64 n] w fun e w' => e = .returned (.tuple #[V3 x0 y0 z0, .bool true]) ∧ Below w.heap.size w w')
    have d1 : ¬ (0 : Int) = n := by omega
    clear h h' hi hn t3 t4 e
    go_enter Try.func3, Try.ntmps3
    go_wp2_with (first
      | (go_at_call 16; ((with_reducible refine (alive11_any _).mono ?_); rintro e w1 ⟨rfl, hb1⟩; have A1 : ∀ o, w1.cell? ⟨w.heap.size, o, none⟩ = (C12 x0 y0 z0 x1 y1 z1 x2 y2 z2 x3 y3 z3)[o]? := blk_later (by simp) hb1 (by (repeat (first | (with_reducible assumption) | (focus ((with_reducible refine new_at ?_ _ _); (repeat (first | (with_reducible rfl) | (with_reducible refine sz1 ?_))); done)) | (with_reducible refine blk_alloc (by simp) _ ?_) | (with_reducible refine blk_drew ?_))))))
      | (go_at_call 17; ((with_reducible refine (K.out _).mono ?_); rintro e w2 ⟨rfl, hb2⟩; have A2 := blk_later (by simp) hb2 A1; have hs2 : w.heap.size < w2.heap.size := blk_lt (by simp) A2))
      | (go_at_call 17; ((with_reducible refine (L.out _ (by first | rfl | (simp; done) | (unfold wrap64; omega) | (simp; omega)) _).mono ?_); rintro e w3 ⟨rfl, hb3⟩; have A3 := blk_later (by simp) hb3 (blk_alloc (by simp) (.cells #[.int .i64 x0, .int .i64 y0, .int .i64 z0] 23) A2); have B3 : ∀ o, w3.cell? ⟨w2.heap.size, o, none⟩ = (#[.int .i64 x0, .int .i64 y0, .int .i64 z0] : Array Value)[o]? := blk_later (by simp) hb3 (by (repeat (first | (with_reducible assumption) | (focus ((with_reducible refine new_at ?_ _ _); (repeat (first | (with_reducible rfl) | (with_reducible refine sz1 ?_))); done)) | (with_reducible refine blk_alloc (by simp) _ ?_) | (with_reducible refine blk_drew ?_)))); have hs3 : w2.heap.size < w3.heap.size := blk_lt (by simp) B3; have hs4 : w.heap.size < w3.heap.size := by omega)))
    go_returns
    exact ⟨by simp [*], by (repeat' (first | (with_reducible exact Below.refl _ _) | (with_reducible refine bstep (by with_reducible assumption) ?_) | (with_reducible refine Below.alloc ?_ ?_ _) | (with_reducible refine Below.drew ?_) | (with_reducible refine below_drewN ?_ _) | (with_reducible refine Below.setCell ?_ ?_ _) | go_size))⟩
  by_cases i1 : i = n
  · subst i1
    rw [cubv_n _ _ _ _ _ t1, cubv_n _ _ _ _ _ t1, cubv_n _ _ _ _ _ t1] at K L
    have K := Lib.hid K
    have L := Lib.hid (fun (j : Int) (hj : j = wrap64 (i - i)) => by rw [hj]; exact L : ∀ j : Int, j = wrap64 (i - i) → ∀ w, Calls Try.prog 17 #[.agg (C12 x3 y3 z3 x2 y2 z2 x1 y1 z1 x0 y0 z0), .int .i64 j, .int .i64 i] w fun e w' => e = .returned (.tuple #[V3 x3 y3 z3, .bool true]) ∧ Below w.heap.size w w')
    clear h h' hi hn t3 t4 e
    go_enter Try.func3, Try.ntmps3
    go_wp2_with (first
      | (go_at_call 16; ((with_reducible refine (alive11_any _).mono ?_); rintro e w1 ⟨rfl, hb1⟩; have A1 : ∀ o, w1.cell? ⟨w.heap.size, o, none⟩ = (C12 x0 y0 z0 x1 y1 z1 x2 y2 z2 x3 y3 z3)[o]? := blk_later (by simp) hb1 (by (repeat (first | (with_reducible assumption) | (focus ((with_reducible refine new_at ?_ _ _); (repeat (first | (with_reducible rfl) | (with_reducible refine sz1 ?_))); done)) | (with_reducible refine blk_alloc (by simp) _ ?_) | (with_reducible refine blk_drew ?_))))))
      | (go_at_call 17; ((with_reducible refine (K.out _).mono ?_); rintro e w2 ⟨rfl, hb2⟩; have A2 := blk_later (by simp) hb2 A1; have hs2 : w.heap.size < w2.heap.size := blk_lt (by simp) A2))
      | (go_at_call 17; ((with_reducible refine (L.out _ (by first | rfl | (simp; done) | (unfold wrap64; omega) | (simp; omega)) _).mono ?_); rintro e w3 ⟨rfl, hb3⟩; have A3 := blk_later (by simp) hb3 (blk_alloc (by simp) (.cells #[.int .i64 x3, .int .i64 y3, .int .i64 z3] 23) A2); have B3 : ∀ o, w3.cell? ⟨w2.heap.size, o, none⟩ = (#[.int .i64 x3, .int .i64 y3, .int .i64 z3] : Array Value)[o]? := blk_later (by simp) hb3 (by (repeat (first | (with_reducible assumption) | (focus ((with_reducible refine new_at ?_ _ _); (repeat (first | (with_reducible rfl) | (with_reducible refine sz1 ?_))); done)) | (with_reducible refine blk_alloc (by simp) _ ?_) | (with_reducible refine blk_drew ?_)))); have hs3 : w2.heap.size < w3.heap.size := blk_lt (by simp) B3; have hs4 : w.heap.size < w3.heap.size := by omega)))
    go_returns
    exact ⟨by simp [*], by (repeat' (first | (with_reducible exact Below.refl _ _) | (with_reducible refine bstep (by with_reducible assumption) ?_) | (with_reducible refine Below.alloc ?_ ?_ _) | (with_reducible refine Below.drew ?_) | (with_reducible refine below_drewN ?_ _) | (with_reducible refine Below.setCell ?_ ?_ _) | go_size))⟩
  obtain ⟨p, ep⟩ : ∃ p, cubv x0 x1 x2 x3 i n = p := ⟨_, rfl⟩
  obtain ⟨q, eq⟩ : ∃ p, cubv y0 y1 y2 y3 i n = p := ⟨_, rfl⟩
  obtain ⟨r, er⟩ : ∃ p, cubv z0 z1 z2 z3 i n = p := ⟨_, rfl⟩
  rw [ep, eq, er] at K L
  have K := Lib.hid K
  have L := Lib.hid L
  clear h h' hi hn t1 t2 t3 t4 e ep eq er
  go_enter Try.func3, Try.ntmps3
  go_wp2_with (first
    | (go_at_call 16; ((with_reducible refine (alive11_any _).mono ?_); rintro e w1 ⟨rfl, hb1⟩; have A1 : ∀ o, w1.cell? ⟨w.heap.size, o, none⟩ = (C12 x0 y0 z0 x1 y1 z1 x2 y2 z2 x3 y3 z3)[o]? := blk_later (by simp) hb1 (by (repeat (first | (with_reducible assumption) | (focus ((with_reducible refine new_at ?_ _ _); (repeat (first | (with_reducible rfl) | (with_reducible refine sz1 ?_))); done)) | (with_reducible refine blk_alloc (by simp) _ ?_) | (with_reducible refine blk_drew ?_))))))
    | (go_at_call 17; ((with_reducible refine (K.out _).mono ?_); rintro e w2 ⟨rfl, hb2⟩; have A2 := blk_later (by simp) hb2 A1; have hs2 : w.heap.size < w2.heap.size := blk_lt (by simp) A2))
    | (go_at_call 17; ((with_reducible refine (L.out _).mono ?_); rintro e w3 ⟨rfl, hb3⟩; have A3 := blk_later (by simp) hb3 (blk_alloc (by simp) (.cells #[.int .i64 p, .int .i64 q, .int .i64 r] 23) A2); have B3 : ∀ o, w3.cell? ⟨w2.heap.size, o, none⟩ = (#[.int .i64 p, .int .i64 q, .int .i64 r] : Array Value)[o]? := blk_later (by simp) hb3 (by (repeat (first | (with_reducible assumption) | (focus ((with_reducible refine new_at ?_ _ _); (repeat (first | (with_reducible rfl) | (with_reducible refine sz1 ?_))); done)) | (with_reducible refine blk_alloc (by simp) _ ?_) | (with_reducible refine blk_drew ?_)))); have hs3 : w2.heap.size < w3.heap.size := blk_lt (by simp) B3; have hs4 : w.heap.size < w3.heap.size := by omega)))
  go_returns
  exact ⟨by simp [*], by (repeat' (first | (with_reducible exact Below.refl _ _) | (with_reducible refine bstep (by with_reducible assumption) ?_) | (with_reducible refine Below.alloc ?_ ?_ _) | (with_reducible refine Below.drew ?_) | (with_reducible refine below_drewN ?_ _) | (with_reducible refine Below.setCell ?_ ?_ _) | go_size))⟩
theorem curveBack_walk (xs : List Int) (hl : xs.length = 12) (_ : ∀ x ∈ xs, I64 x) (i : Int) (hi : I64 i) (n : Int) (hn : I64 n) (w : World) :
    Calls Try.prog 3 #[.agg (xs.map (Value.int .i64)).toArray, .int .i64 i, .int .i64 n] w fun e w' => e = .returned (.bool true) ∧ Below w.heap.size w w' := by
  obtain ⟨x0, y0, z0, x1, y1, z1, x2, y2, z2, x3, y3, z3, rfl⟩ := list12 hl
  cases h : okC x0 y0 z0 x1 y1 z1 x2 y2 z2 x3 y3 z3 i n
  · exact back_no x0 y0 z0 x1 y1 z1 x2 y2 z2 x3 y3 z3 i n hi hn h w
  · exact back_yes x0 y0 z0 x1 y1 z1 x2 y2 z2 x3 y3 z3 i n hi hn h w
end Go.Proofs.Ytdemcleibpgglaa
