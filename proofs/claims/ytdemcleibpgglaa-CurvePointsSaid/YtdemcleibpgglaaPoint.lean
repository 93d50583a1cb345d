/- What curve.Point answers: the contract, for all points and numbers of 64 bits. -/
import Derived.Test.YtdemcleibpgglaaWeighP
import Derived.Test.YtdemcleibpgglaaBack
import Derived.Test.YtdemcleibpgglaaRow16
namespace Go.Proofs.Ytdemcleibpgglaa
open Go.RowKit
set_option maxRecDepth 100000
set_option linter.unusedSimpArgs false
set_option linter.unusedVariables false
/-- The weights of a patch's point. -/
def wtp (i n j m : Int) (k : Nat) : Int := wts i n (k % 4) * wts j m (k / 4)
theorem wts_sm {i n : Int} (h : there i n = true) (j : Nat) (hj : j < 4) : 0 ≤ wts i n j ∧ wts i n j ≤ 4096 := by
  have hs := h
  rw [there_iff] at hs
  obtain ⟨h1, h2, h3, h4⟩ := hs
  have a := wts_alls i n
  have b1 := Int.mul_le_mul h2 h2 (by omega) (show (0:Int) ≤ 16 by omega)
  have b0 : 0 ≤ n * n := Int.mul_nonneg (by omega) (by omega)
  have b2 := Int.mul_le_mul b1 h2 (by omega) (show (0:Int) ≤ 16 * 16 by omega)
  have c0 := wts_le h 0 (by omega)
  have c1 := wts_le h 1 (by omega)
  have c2 := wts_le h 2 (by omega)
  have c3 := wts_le h 3 (by omega)
  simp only [alls] at a
  have : j = 0 ∨ j = 1 ∨ j = 2 ∨ j = 3 := by omega
  rcases this with rfl | rfl | rfl | rfl <;> omega
theorem wtp_le {i n j m : Int} (h : there i n = true) (h' : there j m = true) (k : Nat) (hk : k < 16) : 0 ≤ wtp i n j m k ∧ wtp i n j m k ≤ 16777216 := by
  have a := wts_sm h (k % 4) (by omega)
  have b := wts_sm h' (k / 4) (by omega)
  have c := Int.mul_le_mul a.2 b.2 b.1 (show (0:Int) ≤ 4096 by omega)
  exact ⟨Int.mul_nonneg a.1 b.1, by unfold wtp; omega⟩
theorem wtp_alls (i n j m : Int) : alls (wtp i n j m) 16 = n * n * n * (m * m * m) := by
  have a : wts i n 0 + wts i n 1 + wts i n 2 + wts i n 3 = n * n * n := by have := wts_alls i n; simp only [alls] at this; omega
  have b : wts j m 0 + wts j m 1 + wts j m 2 + wts j m 3 = m * m * m := by have := wts_alls j m; simp only [alls] at this; omega
  rw [← a, ← b]
  simp only [alls, wtp]
  simp only [Nat.reduceMod, Nat.reduceDiv, Nat.zero_mod, Nat.zero_div]
  grind
/-- How many leading points are within the bounds. -/
def okP16 (X : Nat → Int) : Nat → Bool
  | 0 => true
  | k + 1 => okP16 X k && inB (X (k * 3)) (X (k * 3 + 1)) (X (k * 3 + 2)) 65536
theorem okP16_yes {X : Nat → Int} : ∀ {k : Nat}, okP16 X k = true → ∀ j, j < k → inB (X (j * 3)) (X (j * 3 + 1)) (X (j * 3 + 2)) 65536 = true
  | k + 1, h, j, hj => by
    simp only [okP16, Bool.and_eq_true] at h
    rcases Nat.lt_or_ge j k with h' | h'
    · exact okP16_yes h.1 j h'
    · obtain rfl : j = k := by omega
      exact h.2
theorem okP16_no {X : Nat → Int} : ∀ {k : Nat}, okP16 X k = false → ∃ m, m < k ∧ (∀ j, j < m → inB (X (j * 3)) (X (j * 3 + 1)) (X (j * 3 + 2)) 65536 = true) ∧ inB (X (m * 3)) (X (m * 3 + 1)) (X (m * 3 + 2)) 65536 = false
  | 0, h => by simp [okP16] at h
  | k + 1, h => by
    cases hk : okP16 X k
    · obtain ⟨m, h1, h2, h3⟩ := okP16_no hk
      exact ⟨m, by omega, h2, h3⟩
    · simp only [okP16, hk, Bool.true_and] at h
      exact ⟨k, by omega, okP16_yes hk, h⟩
def okPt (X : Nat → Int) (i n j m : Int) : Bool := there i n && there j m && okP16 X 16
/-- A part of a patch's point. -/
def ptv (X : Nat → Int) (c : Nat) (i n j m : Int) : Int := rnd (sums X (wtp i n j m) c 16) (n * n * n * (m * m * m))
def ptF (ok : Bool) (X : Nat → Int) (c : Nat) (i n j m : Int) : Int := if ok then ptv X c i n j m else 0
set_option maxHeartbeats 2000000 in
theorem point_no (cs : Array Value) (hs : 0 < cs.size) (i n j m : Int) (h : there i n = false ∨ there j m = false) (w : World) :
    Calls Try.prog 25 #[.agg cs, .int .i64 i, .int .i64 n, .int .i64 j, .int .i64 m] w fun e w' => e = .returned (.tuple #[V3 0 0 0, .bool false]) ∧ Below w.heap.size w w' := by
  have wk : ∀ a b, ∃ (c0 c1 c2 c3 : Int) (b' : Bool), b' = there a b ∧ ∀ w, Calls Try.prog 40 #[.int .i64 a, .int .i64 b] w fun e w' => e = .returned (.tuple #[.agg (C4 c0 c1 c2 c3), .bool b']) ∧ Below w.heap.size w w' := by
    intro a b
    cases hb : there a b
    · exact ⟨0, 0, 0, 0, false, rfl, weights_none a b hb⟩
    · exact ⟨_, _, _, _, true, rfl, weights_any a b hb⟩
  obtain ⟨a0, a1, a2, a3, ba, ea, KA⟩ := wk i n
  obtain ⟨b0, b1, b2, b3, bb, eb, KB⟩ := wk j m
  rw [← ea, ← eb] at h
  have KA := Lib.hid KA
  have KB := Lib.hid KB
  clear wk ea eb
  have hh : (ba = false) ∨ (ba = true ∧ bb = false) := by cases ba <;> simp_all
  clear h
  rcases hh with rfl | ⟨rfl, rfl⟩ <;>
  · go_enter Try.func25, Try.ntmps25
    go_wp2_with (first
      | (go_at_call 40; ((with_reducible refine (KA.out _).mono ?_); rintro e w1 ⟨rfl, hb1⟩; have Z1 : ∀ o, w1.cell? ⟨w.heap.size + 1, o, none⟩ = (#[.int .i64 0, .int .i64 0, .int .i64 0] : Array Value)[o]? := blk_later (by simp) hb1 (by (repeat (first | (with_reducible assumption) | (focus ((with_reducible refine new_at ?_ _ _); (repeat (first | (with_reducible rfl) | (with_reducible refine sz1 ?_))); done)) | (with_reducible refine blk_alloc (by simp) _ ?_) | (with_reducible refine blk_drew ?_)))); have F1 : ∀ o, w1.frozen? ⟨w.heap.size + 1, o, none⟩ = false := fro_call hb1 (by (repeat (first | (with_reducible assumption) | (focus ((with_reducible refine fro_new ?_ _ _); (repeat (first | (with_reducible rfl) | (with_reducible refine sz1 ?_))); done)) | ((with_reducible refine fro_more ?_ _ ?_); (repeat (first | (with_reducible assumption) | (focus ((with_reducible refine lt_new ?_); (repeat (first | (with_reducible rfl) | (with_reducible refine sz1 ?_))); done)) | (with_reducible refine lt_here ?_))))))) (by (repeat (first | (with_reducible assumption) | (focus ((with_reducible refine lt_new ?_); (repeat (first | (with_reducible rfl) | (with_reducible refine sz1 ?_))); done)) | (with_reducible refine lt_here ?_)))); have s1 : w.heap.size + 1 < w1.heap.size := blk_lt (by simp) Z1))
      | (go_at_call 40; ((with_reducible refine (KB.out _).mono ?_); rintro e w2 ⟨rfl, hb2⟩; have Z2 := blk_later (by simp) hb2 (blk_alloc (by simp) _ Z1); have F2 := fro_call hb2 (fro_more s1 _ F1) (lt_here s1); have s2 : w.heap.size + 1 < w2.heap.size := blk_lt (by simp) Z2; clear Z1 F1)))
    have k0 := fun x => cell_alloc x (s3_0 (u := .int .i64 0) (v := .int .i64 0) (x := .int .i64 0) (Z2 0))
    have k1 := fun x => cell_alloc x (s3_1 (u := .int .i64 0) (v := .int .i64 0) (x := .int .i64 0) (Z2 1))
    have k2 := fun x => cell_alloc x (s3_2 (u := .int .i64 0) (v := .int .i64 0) (x := .int .i64 0) (Z2 2))
    refine bodyPost_ret (v := .tuple #[V3 0 0 0, .bool false]) (by simp [results, Try.results25, go_sem, k0, k1, k2]) rfl ?_
    exact ⟨rfl, by (repeat' (first | (with_reducible exact Below.refl _ _) | (with_reducible refine bstep (by with_reducible assumption) ?_) | (with_reducible refine Below.alloc ?_ ?_ _) | (with_reducible refine Below.drew ?_) | (with_reducible refine below_drewN ?_ _) | (with_reducible refine Below.setCell ?_ ?_ _) | go_size))⟩
set_option maxHeartbeats 2000000 in
theorem point_m (cs : Array Value) (X : Nat → Int) (hX : Is48 cs X) (i n j m : Int) (h : there i n = true) (h' : there j m = true) (k : Nat) (hk : k ≤ 16)
    (hin : ∀ j, j < k → inB (X (j * 3)) (X (j * 3 + 1)) (X (j * 3 + 2)) 65536 = true) (hbad : k < 16 → inB (X (k * 3)) (X (k * 3 + 1)) (X (k * 3 + 2)) 65536 = false)
    (p q r : Int) (ok : Bool) (hR1 : k = 16 → Value.tuple #[V3 p q r, .bool ok] = .tuple #[V3 (ptv X 0 i n j m) (ptv X 1 i n j m) (ptv X 2 i n j m), .bool true]) (hR2 : k < 16 → Value.tuple #[V3 p q r, .bool ok] = .tuple #[V3 0 0 0, .bool false]) (w : World) :
    Calls Try.prog 25 #[.agg cs, .int .i64 i, .int .i64 n, .int .i64 j, .int .i64 m] w fun e w' => e = .returned (.tuple #[V3 p q r, .bool ok]) ∧ Below w.heap.size w w' := by
  have KA := Lib.hid (weights_any i n h)
  have KB := Lib.hid (weights_any j m h')
  have HA : k = 16 → 1 ≤ alls (wtp i n j m) 16 := fun _ => by
    rw [wtp_alls]
    have a := cube_pos (there_iff.1 h).1
    have b := cube_pos (there_iff.1 h').1
    have := Int.mul_le_mul a b (by omega) (by omega)
    omega
  have G := Lib.hid (fun bb bw bx hne w hp hw hx => weigh_two bb bw bx 16 k (wts i n) (wts j m) (Nat.le_refl _) hk hne X (wtp i n j m) (fun t ht => wtp_le h h' t ht) w hp hw hx (fun t _ => rfl) hin hbad HA (ptv X 0 i n j m) (ptv X 1 i n j m) (ptv X 2 i n j m) (by rw [wtp_alls]; rfl) (by rw [wtp_alls]; rfl) (by rw [wtp_alls]; rfl) _ hR1 hR2)
  obtain ⟨hs, hx⟩ := hX
  have C := Lib.hid hx
  have D := Lib.hid (fun o ho => cells4 i n o ho)
  have E := Lib.hid (fun o ho => cells4 j m o ho)
  have hs0 : 0 < cs.size := by omega
  clear h h' hin hbad hR1 hR2 HA hk hx hs
  go_enter Try.func25, Try.ntmps25
  go_wp2_with (first
    | (go_at_call 40; ((with_reducible refine (KA.out _).mono ?_); rintro e w1 ⟨rfl, hb1⟩; have c1 : ∀ o, w1.cell? ⟨w.heap.size, o, none⟩ = cs[o]? := blk_later hs0 hb1 (by (repeat (first | (with_reducible assumption) | (focus ((with_reducible refine new_at ?_ _ _); (repeat (first | (with_reducible rfl) | (with_reducible refine sz1 ?_))); done)) | (with_reducible refine blk_alloc hs0 _ ?_) | (with_reducible refine blk_drew ?_)))); have Z1 : ∀ o, w1.cell? ⟨w.heap.size + 1, o, none⟩ = (#[.int .i64 0, .int .i64 0, .int .i64 0] : Array Value)[o]? := blk_later (by simp) hb1 (by (repeat (first | (with_reducible assumption) | (focus ((with_reducible refine new_at ?_ _ _); (repeat (first | (with_reducible rfl) | (with_reducible refine sz1 ?_))); done)) | (with_reducible refine blk_alloc (by simp) _ ?_) | (with_reducible refine blk_drew ?_)))); have F1 : ∀ o, w1.frozen? ⟨w.heap.size + 1, o, none⟩ = false := fro_call hb1 (by (repeat (first | (with_reducible assumption) | (focus ((with_reducible refine fro_new ?_ _ _); (repeat (first | (with_reducible rfl) | (with_reducible refine sz1 ?_))); done)) | ((with_reducible refine fro_more ?_ _ ?_); (repeat (first | (with_reducible assumption) | (focus ((with_reducible refine lt_new ?_); (repeat (first | (with_reducible rfl) | (with_reducible refine sz1 ?_))); done)) | (with_reducible refine lt_here ?_))))))) (by (repeat (first | (with_reducible assumption) | (focus ((with_reducible refine lt_new ?_); (repeat (first | (with_reducible rfl) | (with_reducible refine sz1 ?_))); done)) | (with_reducible refine lt_here ?_)))); have s1 : w.heap.size + 1 < w1.heap.size := blk_lt (by simp) Z1; have C1 := Lib.hid c1; clear c1))
    | (go_at_call 40; ((with_reducible refine (KB.out _).mono ?_); rintro e w2 ⟨rfl, hb2⟩; have c2 := blk_later hs0 hb2 (blk_alloc hs0 _ C1.out); have Z2 := blk_later (by simp) hb2 (blk_alloc (by simp) _ Z1); have F2 := fro_call hb2 (fro_more s1 _ F1) (lt_here s1); have s2 : w.heap.size + 1 < w2.heap.size := blk_lt (by simp) Z2; have W2 := blk_later (by simp) hb2 (new_at rfl _ _); have s3 : w1.heap.size < w2.heap.size := blk_lt (by simp) W2; have C2 := Lib.hid c2; have W2' := Lib.hid W2; clear Z1 F1 C1 c2 W2))
    | (go_at_call 41; (refine (G.out w.heap.size w1.heap.size w2.heap.size (by omega) _ (fun o ho => (blk_alloc hs0 _ C2.out o).trans (C.out o ho)) (fun o ho => (blk_alloc (by simp) _ W2'.out o).trans (D.out o ho)) (fun o ho => (new_at rfl _ _ o).trans (E.out o ho))).mono ?_); rintro e w3 ⟨rfl, hb3⟩; have Z3 := blk_later (by simp) hb3 (blk_alloc (by simp) _ Z2); have F3 := fro_call hb3 (fro_more s2 _ F2) (lt_here s2); have s4 : w.heap.size + 1 < w3.heap.size := blk_lt (by simp) Z3; clear Z2 F2))
  have k0 := s3_0 (u := .int .i64 p) (v := .int .i64 q) (x := .int .i64 r) (Z3 0)
  have k1 := s3_1 (u := .int .i64 p) (v := .int .i64 q) (x := .int .i64 r) (Z3 1)
  have k2 := s3_2 (u := .int .i64 p) (v := .int .i64 q) (x := .int .i64 r) (Z3 2)
  refine bodyPost_ret (v := .tuple #[V3 p q r, .bool ok]) (by simp [results, Try.results25, go_sem, k0, k1, k2]) rfl ?_
  exact ⟨rfl, by (repeat' (first | (with_reducible exact Below.refl _ _) | (with_reducible refine bstep (by with_reducible assumption) ?_) | (with_reducible refine Below.alloc ?_ ?_ _) | (with_reducible refine Below.drew ?_) | (with_reducible refine below_drewN ?_ _) | (with_reducible refine Below.setCell ?_ ?_ _) | go_size))⟩
/-- Each patch's point. -/
theorem point_is (cs : Array Value) (X : Nat → Int) (hX : Is48 cs X) (i n j m : Int) (ok : Bool) (p q r : Int) (hok : okPt X i n j m = ok) (ep : ptF ok X 0 i n j m = p) (eq : ptF ok X 1 i n j m = q) (er : ptF ok X 2 i n j m = r) (w : World) :
    Calls Try.prog 25 #[.agg cs, .int .i64 i, .int .i64 n, .int .i64 j, .int .i64 m] w fun e w' => e = .returned (.tuple #[V3 p q r, .bool ok]) ∧ Below w.heap.size w w' := by
  subst ep eq er
  cases h : there i n
  · obtain rfl : ok = false := by rw [← hok]; simp [okPt, h]
    exact point_no cs (by have := hX.1; omega) i n j m (.inl h) w
  cases h' : there j m
  · obtain rfl : ok = false := by rw [← hok]; simp [okPt, h']
    exact point_no cs (by have := hX.1; omega) i n j m (.inr h') w
  cases hp : okP16 X 16
  · obtain rfl : ok = false := by rw [← hok]; simp [okPt, hp]
    obtain ⟨k, h1, h2, h3⟩ := okP16_no hp
    exact point_m cs X hX i n j m h h' k (by omega) h2 (fun _ => h3) _ _ _ _ (fun hk => absurd hk (by omega)) (fun _ => rfl) w
  · obtain rfl : ok = true := by rw [← hok]; simp [okPt, h, h', hp]
    exact point_m cs X hX i n j m h h' 16 (by omega) (okP16_yes hp) (fun hk => absurd hk (by omega)) _ _ _ _ (fun _ => rfl) (fun hk => absurd hk (by omega)) w
end Go.Proofs.Ytdemcleibpgglaa
