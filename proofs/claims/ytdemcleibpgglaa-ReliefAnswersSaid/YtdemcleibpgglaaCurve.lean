/- What curve.Cubic answers: the contract, for all points and numbers of 64 bits. -/
import Derived.Test.YtdemcleibpgglaaWeighC
import Derived.Test.YtdemcleibpgglaaHeld
namespace Go.Proofs.Ytdemcleibpgglaa
open Go.RowKit
set_option maxRecDepth 100000
set_option linter.unusedSimpArgs false
set_option linter.unusedVariables false
def nth12 (x0 y0 z0 x1 y1 z1 x2 y2 z2 x3 y3 z3 : Int) : Nat → Int
  | 0 => x0 | 1 => y0 | 2 => z0 | 3 => x1 | 4 => y1 | 5 => z1 | 6 => x2 | 7 => y2 | 8 => z2 | 9 => x3 | 10 => y3 | _ => z3
theorem cells12 (x0 y0 z0 x1 y1 z1 x2 y2 z2 x3 y3 z3 : Int) (o : Nat) (h : o < 12) : (C12 x0 y0 z0 x1 y1 z1 x2 y2 z2 x3 y3 z3)[o]? = some (.int .i64 (nth12 x0 y0 z0 x1 y1 z1 x2 y2 z2 x3 y3 z3 o)) := by
  match o, h with
  | 0, _ => rfl | 1, _ => rfl | 2, _ => rfl | 3, _ => rfl | 4, _ => rfl | 5, _ => rfl | 6, _ => rfl | 7, _ => rfl | 8, _ => rfl | 9, _ => rfl | 10, _ => rfl | 11, _ => rfl
def wts (i n : Int) : Nat → Int
  | 0 => wt0 i n | 1 => wt1 i n | 2 => wt2 i n | _ => wt3 i n
abbrev C4 (a b c d : Int) : Array Value := #[.int .i64 a, .int .i64 b, .int .i64 c, .int .i64 d]
theorem cells4 (i n : Int) (o : Nat) (h : o < 4) : (C4 (wt0 i n) (wt1 i n) (wt2 i n) (wt3 i n))[o]? = some (.int .i64 (wts i n o)) := by
  match o, h with
  | 0, _ => rfl | 1, _ => rfl | 2, _ => rfl | 3, _ => rfl
theorem wts_le {i n : Int} (h : there i n = true) (j : Nat) (_ : j < 4) : 0 ≤ wts i n j ∧ wts i n j ≤ 16777216 := by
  rw [there_iff] at h
  obtain ⟨h1, h2, h3, h4⟩ := h
  obtain ⟨k, hk⟩ : ∃ k, n - i = k := ⟨_, rfl⟩
  have k1 : 0 ≤ k := by omega
  have k2 : k ≤ 16 := by omega
  have i2 : i ≤ 16 := by omega
  have ⟨a1, a2⟩ := mul_le k1 k2 k1 k2
  have ⟨a3, a4⟩ := mul_le a1 a2 k1 k2
  have b1 : 0 ≤ 3 * k := by omega
  have b2 : 3 * k ≤ 48 := by omega
  have ⟨b3, b4⟩ := mul_le b1 b2 k1 k2
  have ⟨b5, b6⟩ := mul_le b3 b4 h3 i2
  have ⟨d1, d2⟩ := mul_le b1 b2 h3 i2
  have ⟨d3, d4⟩ := mul_le d1 d2 h3 i2
  have ⟨e1, e2⟩ := mul_le h3 i2 h3 i2
  have ⟨e3, e4⟩ := mul_le e1 e2 h3 i2
  match j with
  | 0 => simp only [wts, wt0, hk]; omega
  | 1 => simp only [wts, wt1, hk]; omega
  | 2 => simp only [wts, wt2, hk]; omega
  | 3 => simp only [wts, wt3]; omega
  | j + 4 => simp only [wts, wt3]; omega
theorem wts_alls (i n : Int) : alls (wts i n) 4 = n * n * n := by
  simp only [alls, wts]
  unfold wt0 wt1 wt2 wt3; grind
theorem cube_pos {n : Int} (h : 1 ≤ n) : 1 ≤ n * n * n := by
  have a := Int.mul_le_mul h h (by omega) (by omega)
  have b := Int.mul_le_mul a h (by omega) (by omega)
  omega
/-- Are four points within the bounds, the first m of them? -/
theorem cubic_m (x0 y0 z0 x1 y1 z1 x2 y2 z2 x3 y3 z3 i n : Int) (h : there i n = true) (m : Nat) (hm : m ≤ 4)
    (hin : ∀ j, j < m → inB (nth12 x0 y0 z0 x1 y1 z1 x2 y2 z2 x3 y3 z3 (j * 3)) (nth12 x0 y0 z0 x1 y1 z1 x2 y2 z2 x3 y3 z3 (j * 3 + 1)) (nth12 x0 y0 z0 x1 y1 z1 x2 y2 z2 x3 y3 z3 (j * 3 + 2)) 65536 = true)
    (hbad : m < 4 → inB (nth12 x0 y0 z0 x1 y1 z1 x2 y2 z2 x3 y3 z3 (m * 3)) (nth12 x0 y0 z0 x1 y1 z1 x2 y2 z2 x3 y3 z3 (m * 3 + 1)) (nth12 x0 y0 z0 x1 y1 z1 x2 y2 z2 x3 y3 z3 (m * 3 + 2)) 65536 = false)
    (r0 r1 r2 : Int) (e0 : rnd (sums (nth12 x0 y0 z0 x1 y1 z1 x2 y2 z2 x3 y3 z3) (wts i n) 0 4) (alls (wts i n) 4) = r0) (e1 : rnd (sums (nth12 x0 y0 z0 x1 y1 z1 x2 y2 z2 x3 y3 z3) (wts i n) 1 4) (alls (wts i n) 4) = r1) (e2 : rnd (sums (nth12 x0 y0 z0 x1 y1 z1 x2 y2 z2 x3 y3 z3) (wts i n) 2 4) (alls (wts i n) 4) = r2)
    (p q r : Int) (ok : Bool) (hR1 : m = 4 → Value.tuple #[V3 p q r, .bool ok] = .tuple #[V3 r0 r1 r2, .bool true]) (hR2 : m < 4 → Value.tuple #[V3 p q r, .bool ok] = .tuple #[V3 0 0 0, .bool false]) (w : World) :
    Calls Try.prog 17 #[.agg (C12 x0 y0 z0 x1 y1 z1 x2 y2 z2 x3 y3 z3), .int .i64 i, .int .i64 n] w fun e w' => e = .returned (.tuple #[V3 p q r, .bool ok]) ∧ Below w.heap.size w w' := by
  have K := Lib.hid (weights_any i n h)
  have HT := Lib.hid (fun j hj => wts_le h j hj)
  have HA : m = 4 → 1 ≤ alls (wts i n) 4 := fun _ => by rw [wts_alls]; exact cube_pos (there_iff.1 h).1
  have G := Lib.hid (fun bb bw hne w hp hw => weigh_any bb bw 4 m (Nat.le_refl _) hm hne (nth12 x0 y0 z0 x1 y1 z1 x2 y2 z2 x3 y3 z3) (wts i n) (fun j hj => HT.out j hj) w hp hw hin hbad HA r0 r1 r2 e0 e1 e2 _ hR1 hR2)
  have C := Lib.hid (fun o ho => cells12 x0 y0 z0 x1 y1 z1 x2 y2 z2 x3 y3 z3 o ho)
  have D := Lib.hid (fun o ho => cells4 i n o ho)
  clear h hin hbad e0 e1 e2 hR1 hR2 HA HT hm
  go_enter Try.func17, Try.ntmps17
  go_wp2_with (first
    | (go_at_call 40; ((with_reducible refine (K.out _).mono ?_); rintro e w1 ⟨rfl, hb1⟩; have c1 := blk_later (b := w.heap.size) (cs := C12 x0 y0 z0 x1 y1 z1 x2 y2 z2 x3 y3 z3) (by simp) hb1 (fun o => by simp); have hl : w.heap.size < w1.heap.size := blk_lt (by simp) c1; have Z1 : ∀ o, w1.cell? ⟨w.heap.size + 1, o, none⟩ = (#[.int .i64 0, .int .i64 0, .int .i64 0] : Array Value)[o]? := blk_later (by simp) hb1 (by (repeat (first | (with_reducible assumption) | (focus ((with_reducible refine new_at ?_ _ _); (repeat (first | (with_reducible rfl) | (with_reducible refine sz1 ?_))); done)) | (with_reducible refine blk_alloc (by simp) _ ?_) | (with_reducible refine blk_drew ?_)))); have F1 : ∀ o, w1.frozen? ⟨w.heap.size + 1, o, none⟩ = false := fro_call hb1 (by (repeat (first | (with_reducible assumption) | (focus ((with_reducible refine fro_new ?_ _ _); (repeat (first | (with_reducible rfl) | (with_reducible refine sz1 ?_))); done)) | ((with_reducible refine fro_more ?_ _ ?_); (repeat (first | (with_reducible assumption) | (focus ((with_reducible refine lt_new ?_); (repeat (first | (with_reducible rfl) | (with_reducible refine sz1 ?_))); done)) | (with_reducible refine lt_here ?_))))))) (by (repeat (first | (with_reducible assumption) | (focus ((with_reducible refine lt_new ?_); (repeat (first | (with_reducible rfl) | (with_reducible refine sz1 ?_))); done)) | (with_reducible refine lt_here ?_)))); have hl1 : w.heap.size + 1 < w1.heap.size := blk_lt (by simp) Z1))
    | (go_at_call 41; (refine (G.out w.heap.size w1.heap.size (by omega) _ (fun o ho => (blk_alloc (by simp) _ c1 o).trans (C.out o ho)) (fun o ho => (by simpa using D.out o ho))).mono ?_); rintro e w2 ⟨rfl, hb2⟩; have Z2 : ∀ o, w2.cell? ⟨w.heap.size + 1, o, none⟩ = (#[.int .i64 0, .int .i64 0, .int .i64 0] : Array Value)[o]? := blk_later (by simp) hb2 (by (repeat (first | (with_reducible assumption) | (focus ((with_reducible refine new_at ?_ _ _); (repeat (first | (with_reducible rfl) | (with_reducible refine sz1 ?_))); done)) | (with_reducible refine blk_alloc (by simp) _ ?_) | (with_reducible refine blk_drew ?_)))); have F2 : ∀ o, w2.frozen? ⟨w.heap.size + 1, o, none⟩ = false := fro_call hb2 (by (repeat (first | (with_reducible assumption) | (focus ((with_reducible refine fro_new ?_ _ _); (repeat (first | (with_reducible rfl) | (with_reducible refine sz1 ?_))); done)) | ((with_reducible refine fro_more ?_ _ ?_); (repeat (first | (with_reducible assumption) | (focus ((with_reducible refine lt_new ?_); (repeat (first | (with_reducible rfl) | (with_reducible refine sz1 ?_))); done)) | (with_reducible refine lt_here ?_))))))) (by (repeat (first | (with_reducible assumption) | (focus ((with_reducible refine lt_new ?_); (repeat (first | (with_reducible rfl) | (with_reducible refine sz1 ?_))); done)) | (with_reducible refine lt_here ?_)))); have hl2 : w.heap.size + 1 < w2.heap.size := blk_lt (by simp) Z2; clear Z1 F1))
  have k0 := s3_0 (u := .int .i64 p) (v := .int .i64 q) (x := .int .i64 r) (Z2 0)
  have k1 := s3_1 (u := .int .i64 p) (v := .int .i64 q) (x := .int .i64 r) (Z2 1)
  have k2 := s3_2 (u := .int .i64 p) (v := .int .i64 q) (x := .int .i64 r) (Z2 2)
  refine bodyPost_ret (v := .tuple #[V3 p q r, .bool ok]) (by simp [results, Try.results17, go_sem, k0, k1, k2]) rfl ?_
  exact ⟨rfl, by (repeat' (first | (with_reducible exact Below.refl _ _) | (with_reducible refine bstep (by with_reducible assumption) ?_) | (with_reducible refine Below.alloc ?_ ?_ _) | (with_reducible refine Below.drew ?_) | (with_reducible refine below_drewN ?_ _) | (with_reducible refine Below.setCell ?_ ?_ _) | go_size))⟩
theorem cubic_none (x0 y0 z0 x1 y1 z1 x2 y2 z2 x3 y3 z3 i n : Int) (h : there i n = false) (w : World) :
    Calls Try.prog 17 #[.agg (C12 x0 y0 z0 x1 y1 z1 x2 y2 z2 x3 y3 z3), .int .i64 i, .int .i64 n] w fun e w' => e = .returned (.tuple #[V3 0 0 0, .bool false]) ∧ Below w.heap.size w w' := by
  have K := Lib.hid (weights_none i n h)
  clear h
  go_enter Try.func17, Try.ntmps17
  go_wp2_with (go_at_call 40; ((with_reducible refine (K.out _).mono ?_); rintro e w1 ⟨rfl, hb1⟩; have Z1 : ∀ o, w1.cell? ⟨w.heap.size + 1, o, none⟩ = (#[.int .i64 0, .int .i64 0, .int .i64 0] : Array Value)[o]? := blk_later (by simp) hb1 (by (repeat (first | (with_reducible assumption) | (focus ((with_reducible refine new_at ?_ _ _); (repeat (first | (with_reducible rfl) | (with_reducible refine sz1 ?_))); done)) | (with_reducible refine blk_alloc (by simp) _ ?_) | (with_reducible refine blk_drew ?_)))); have F1 : ∀ o, w1.frozen? ⟨w.heap.size + 1, o, none⟩ = false := fro_call hb1 (by (repeat (first | (with_reducible assumption) | (focus ((with_reducible refine fro_new ?_ _ _); (repeat (first | (with_reducible rfl) | (with_reducible refine sz1 ?_))); done)) | ((with_reducible refine fro_more ?_ _ ?_); (repeat (first | (with_reducible assumption) | (focus ((with_reducible refine lt_new ?_); (repeat (first | (with_reducible rfl) | (with_reducible refine sz1 ?_))); done)) | (with_reducible refine lt_here ?_))))))) (by (repeat (first | (with_reducible assumption) | (focus ((with_reducible refine lt_new ?_); (repeat (first | (with_reducible rfl) | (with_reducible refine sz1 ?_))); done)) | (with_reducible refine lt_here ?_)))); have hl1 : w.heap.size + 1 < w1.heap.size := blk_lt (by simp) Z1))
  have k0 := fun x => cell_alloc x (s3_0 (u := .int .i64 0) (v := .int .i64 0) (x := .int .i64 0) (Z1 0))
  have k1 := fun x => cell_alloc x (s3_1 (u := .int .i64 0) (v := .int .i64 0) (x := .int .i64 0) (Z1 1))
  have k2 := fun x => cell_alloc x (s3_2 (u := .int .i64 0) (v := .int .i64 0) (x := .int .i64 0) (Z1 2))
  refine bodyPost_ret (v := .tuple #[V3 0 0 0, .bool false]) (by simp [results, Try.results17, go_sem, k0, k1, k2]) rfl ?_
  exact ⟨rfl, by (repeat' (first | (with_reducible exact Below.refl _ _) | (with_reducible refine bstep (by with_reducible assumption) ?_) | (with_reducible refine Below.alloc ?_ ?_ _) | (with_reducible refine Below.drew ?_) | (with_reducible refine below_drewN ?_ _) | (with_reducible refine Below.setCell ?_ ?_ _) | go_size))⟩
/-- Is there a point of a curve? -/
def okC (x0 y0 z0 x1 y1 z1 x2 y2 z2 x3 y3 z3 i n : Int) : Bool := there i n && inB x0 y0 z0 65536 && inB x1 y1 z1 65536 && inB x2 y2 z2 65536 && inB x3 y3 z3 65536
/-- A part of a curve's point. -/
def cubv (a b c d i n : Int) : Int := rnd (a * wt0 i n + b * wt1 i n + c * wt2 i n + d * wt3 i n) (n * n * n)
def cub (ok : Bool) (a b c d i n : Int) : Int := if ok then cubv a b c d i n else 0
theorem cubic_is (x0 y0 z0 x1 y1 z1 x2 y2 z2 x3 y3 z3 i n : Int) (ok : Bool) (p q r : Int) (hok : okC x0 y0 z0 x1 y1 z1 x2 y2 z2 x3 y3 z3 i n = ok) (ep : cub ok x0 x1 x2 x3 i n = p) (eq : cub ok y0 y1 y2 y3 i n = q) (er : cub ok z0 z1 z2 z3 i n = r) (w : World) :
    Calls Try.prog 17 #[.agg (C12 x0 y0 z0 x1 y1 z1 x2 y2 z2 x3 y3 z3), .int .i64 i, .int .i64 n] w fun e w' => e = .returned (.tuple #[V3 p q r, .bool ok]) ∧ Below w.heap.size w w' := by
  subst ep eq er
  cases h : there i n
  · obtain rfl : ok = false := by rw [← hok]; simp [okC, h]
    exact cubic_none x0 y0 z0 x1 y1 z1 x2 y2 z2 x3 y3 z3 i n h w
  rw [okC, h, Bool.true_and] at hok
  cases h0 : inB x0 y0 z0 65536
  · obtain rfl : ok = false := by rw [← hok]; simp [h0]
    exact cubic_m x0 y0 z0 x1 y1 z1 x2 y2 z2 x3 y3 z3 i n h 0 (by omega) (fun j hj => absurd hj (by omega)) (fun _ => h0) _ _ _ rfl rfl rfl _ _ _ _ (fun h => absurd h (by omega)) (fun _ => rfl) w
  cases h1 : inB x1 y1 z1 65536
  · obtain rfl : ok = false := by rw [← hok]; simp [h1]
    exact cubic_m x0 y0 z0 x1 y1 z1 x2 y2 z2 x3 y3 z3 i n h 1 (by omega) (fun j hj => by match j, hj with | 0, _ => exact h0) (fun _ => h1) _ _ _ rfl rfl rfl _ _ _ _ (fun h => absurd h (by omega)) (fun _ => rfl) w
  cases h2 : inB x2 y2 z2 65536
  · obtain rfl : ok = false := by rw [← hok]; simp [h2]
    exact cubic_m x0 y0 z0 x1 y1 z1 x2 y2 z2 x3 y3 z3 i n h 2 (by omega) (fun j hj => by match j, hj with | 0, _ => exact h0 | 1, _ => exact h1) (fun _ => h2) _ _ _ rfl rfl rfl _ _ _ _ (fun h => absurd h (by omega)) (fun _ => rfl) w
  cases h3 : inB x3 y3 z3 65536
  · obtain rfl : ok = false := by rw [← hok]; simp [h3]
    exact cubic_m x0 y0 z0 x1 y1 z1 x2 y2 z2 x3 y3 z3 i n h 3 (by omega) (fun j hj => by match j, hj with | 0, _ => exact h0 | 1, _ => exact h1 | 2, _ => exact h2) (fun _ => h3) _ _ _ rfl rfl rfl _ _ _ _ (fun h => absurd h (by omega)) (fun _ => rfl) w
  obtain rfl : ok = true := by rw [← hok]; simp [h0, h1, h2, h3]
  have e : ∀ a b c d : Int, 0 + a * wt0 i n + b * wt1 i n + c * wt2 i n + d * wt3 i n = a * wt0 i n + b * wt1 i n + c * wt2 i n + d * wt3 i n := fun a b c d => by rw [Int.zero_add]
  exact cubic_m x0 y0 z0 x1 y1 z1 x2 y2 z2 x3 y3 z3 i n h 4 (by omega) (fun j hj => by match j, hj with | 0, _ => exact h0 | 1, _ => exact h1 | 2, _ => exact h2 | 3, _ => exact h3) (fun h => absurd h (by omega)) (cubv x0 x1 x2 x3 i n) (cubv y0 y1 y2 y3 i n) (cubv z0 z1 z2 z3 i n)
    (by rw [wts_alls, cubv]; simp only [sums, wts, nth12, e]) (by rw [wts_alls, cubv]; simp only [sums, wts, nth12, e]) (by rw [wts_alls, cubv]; simp only [sums, wts, nth12, e]) _ _ _ _ (fun _ => rfl) (fun h => absurd h (by omega)) w
end Go.Proofs.Ytdemcleibpgglaa
