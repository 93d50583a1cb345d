/- The law on curves that are moved, walked: for all points, moves and numbers of 64 bits it answers true. -/
import Derived.Test.YtdemcleibpgglaaFlatC
namespace Go.Proofs.Ytdemcleibpgglaa
open Go.RowKit
set_option maxRecDepth 100000
set_option linter.unusedSimpArgs false
set_option linter.unusedVariables false
theorem within_b {x y z m : Int} {b : Bool} (h : inB x y z m = b) : ∀ w, Calls Try.prog 18 #[V3 x y z, .int .i64 m] w fun e w' => e = .returned (.bool b) ∧ Below w.heap.size w w' := by
  intro w; have := within_any x y z m w; rw [h] at this; exact this
theorem cubv_add (x0 x1 x2 x3 a i n : Int) (h : 1 ≤ n) : cubv (x0 + a) (x1 + a) (x2 + a) (x3 + a) i n = cubv x0 x1 x2 x3 i n + a := by
  have e : (x0 + a) * wt0 i n + (x1 + a) * wt1 i n + (x2 + a) * wt2 i n + (x3 + a) * wt3 i n = (x0 * wt0 i n + x1 * wt1 i n + x2 * wt2 i n + x3 * wt3 i n) + a * (n * n * n) := by rw [← wt_all i n]; grind
  unfold cubv
  rw [e]
  exact rnd_add _ _ _ (by have := cube_pos h; omega)
theorem cubv_le {x0 x1 x2 x3 i n B : Int} (h : there i n = true) (h0 : -B ≤ x0 ∧ x0 ≤ B) (h1 : -B ≤ x1 ∧ x1 ≤ B) (h2 : -B ≤ x2 ∧ x2 ≤ B) (h3 : -B ≤ x3 ∧ x3 ≤ B) : -B ≤ cubv x0 x1 x2 x3 i n ∧ cubv x0 x1 x2 x3 i n ≤ B := by
  have w0 := (wts_le h 0 (by omega)).1
  have w1 := (wts_le h 1 (by omega)).1
  have w2 := (wts_le h 2 (by omega)).1
  have w3 := (wts_le h 3 (by omega)).1
  simp only [wts] at w0 w1 w2 w3
  have s := wt_all i n
  have p := cube_pos (there_iff.1 h).1
  have a0 := Int.mul_le_mul_of_nonneg_right h0.1 w0
  have a1 := Int.mul_le_mul_of_nonneg_right h1.1 w1
  have a2 := Int.mul_le_mul_of_nonneg_right h2.1 w2
  have a3 := Int.mul_le_mul_of_nonneg_right h3.1 w3
  have b0 := Int.mul_le_mul_of_nonneg_right h0.2 w0
  have b1 := Int.mul_le_mul_of_nonneg_right h1.2 w1
  have b2 := Int.mul_le_mul_of_nonneg_right h2.2 w2
  have b3 := Int.mul_le_mul_of_nonneg_right h3.2 w3
  have eB : B * (n * n * n) = B * wt0 i n + B * wt1 i n + B * wt2 i n + B * wt3 i n := by rw [← s]; grind
  have eN : -B * (n * n * n) = -B * wt0 i n + -B * wt1 i n + -B * wt2 i n + -B * wt3 i n := by rw [← s]; grind
  exact ⟨rnd_ge _ _ _ (by omega) (by omega), rnd_le _ _ _ (by omega) (by omega)⟩
theorem mv_facts (x0 y0 z0 x1 y1 z1 x2 y2 z2 x3 y3 z3 a b c i n : Int) (hb : inB a b c 16384 = true) (h0 : inB x0 y0 z0 32768 = true) (h1 : inB x1 y1 z1 32768 = true) (h2 : inB x2 y2 z2 32768 = true) (h3 : inB x3 y3 z3 32768 = true) : ∃ (ok : Bool) (p q r p2 q2 r2 p3 q3 r3 : Int),
    (∀ w, Calls Try.prog 17 #[.agg (C12 x0 y0 z0 x1 y1 z1 x2 y2 z2 x3 y3 z3), .int .i64 i, .int .i64 n] w fun e w' => e = .returned (.tuple #[V3 p q r, .bool ok]) ∧ Below w.heap.size w w') ∧
    (∀ w, Calls Try.prog 17 #[.agg (C12 (x0 + a) (y0 + b) (z0 + c) (x1 + a) (y1 + b) (z1 + c) (x2 + a) (y2 + b) (z2 + c) (x3 + a) (y3 + b) (z3 + c)), .int .i64 i, .int .i64 n] w fun e w' => e = .returned (.tuple #[V3 p2 q2 r2, .bool ok]) ∧ Below w.heap.size w w') ∧
    (∀ w, Calls Try.prog 17 #[.agg (C12 a b c a b c a b c a b c), .int .i64 i, .int .i64 n] w fun e w' => e = .returned (.tuple #[V3 p3 q3 r3, .bool ok]) ∧ Below w.heap.size w w') ∧
    (ok = true → (p3 = a ∧ q3 = b ∧ r3 = c) ∧ ∀ w, Calls Try.prog 19 #[V3 p q r, V3 a b c] w fun e w' => e = .returned (V3 p2 q2 r2) ∧ Below w.heap.size w w') := by
  rw [inB_iff (by omega) (by omega)] at hb h0 h1 h2 h3
  have g : ∀ x y z, ((-49152 ≤ x ∧ x ≤ 49152) ∧ (-49152 ≤ y ∧ y ≤ 49152) ∧ (-49152 ≤ z ∧ z ≤ 49152)) → inB x y z 65536 = true := fun x y z h => by rw [inB_iff (by omega) (by omega)]; omega
  have k1 : okC x0 y0 z0 x1 y1 z1 x2 y2 z2 x3 y3 z3 i n = there i n := by unfold okC; rw [g x0 y0 z0 (by omega), g x1 y1 z1 (by omega), g x2 y2 z2 (by omega), g x3 y3 z3 (by omega)]; simp
  have k2 : okC (x0 + a) (y0 + b) (z0 + c) (x1 + a) (y1 + b) (z1 + c) (x2 + a) (y2 + b) (z2 + c) (x3 + a) (y3 + b) (z3 + c) i n = there i n := by unfold okC; rw [g (x0 + a) (y0 + b) (z0 + c) (by omega), g (x1 + a) (y1 + b) (z1 + c) (by omega), g (x2 + a) (y2 + b) (z2 + c) (by omega), g (x3 + a) (y3 + b) (z3 + c) (by omega)]; simp
  have k3 : okC a b c a b c a b c a b c i n = there i n := by unfold okC; rw [g a b c (by omega)]; simp
  refine ⟨there i n, _, _, _, _, _, _, _, _, _, cubic_is x0 y0 z0 x1 y1 z1 x2 y2 z2 x3 y3 z3 i n _ _ _ _ k1 rfl rfl rfl, cubic_is (x0 + a) (y0 + b) (z0 + c) (x1 + a) (y1 + b) (z1 + c) (x2 + a) (y2 + b) (z2 + c) (x3 + a) (y3 + b) (z3 + c) i n _ _ _ _ k2 rfl rfl rfl, cubic_is a b c a b c a b c a b c i n _ _ _ _ k3 rfl rfl rfl, fun h => ?_⟩
  rw [h]
  have hn := (there_iff.1 h).1
  have b0 := cubv_le (x0 := x0) (x1 := x1) (x2 := x2) (x3 := x3) (B := 32768) h (by omega) (by omega) (by omega) (by omega)
  have b1 := cubv_le (x0 := y0) (x1 := y1) (x2 := y2) (x3 := y3) (B := 32768) h (by omega) (by omega) (by omega) (by omega)
  have b2 := cubv_le (x0 := z0) (x1 := z1) (x2 := z2) (x3 := z3) (B := 32768) h (by omega) (by omega) (by omega) (by omega)
  simp only [cub, if_true]
  refine ⟨⟨cubv_one _ _ _ hn, cubv_one _ _ _ hn, cubv_one _ _ _ hn⟩, fun w => ?_⟩
  have A := radd_any (cubv x0 x1 x2 x3 i n) (cubv y0 y1 y2 y3 i n) (cubv z0 z1 z2 z3 i n) a b c w
  rw [w64 (x := cubv x0 x1 x2 x3 i n + a) (by omega) (by omega), w64 (x := cubv y0 y1 y2 y3 i n + b) (by omega) (by omega), w64 (x := cubv z0 z1 z2 z3 i n + c) (by omega) (by omega)] at A
  rw [cubv_add _ _ _ _ _ _ _ hn, cubv_add _ _ _ _ _ _ _ hn, cubv_add _ _ _ _ _ _ _ hn]
  exact A
theorem set_some {w : World} {a e : Addr} {u y : Value} (h : w.cell? a = some y) : ∃ z, (w.setCell e u).cell? a = some z := by
  by_cases q : e = a
  · subst q; exact ⟨u, World.cell?_setCell_same _ _ _ h⟩
  · exact ⟨y, (World.cell?_setCell_other _ _ _ _ (by first | exact q | exact fun k => q k.symm)).trans h⟩
theorem celq_any {w : World} {b i j k o : Nat} {u v x y : Value} (h : w.cell? ⟨b, o, none⟩ = some y) : (((w.setCell ⟨b, i, none⟩ u).setCell ⟨b, j, none⟩ v).setCell ⟨b, k, none⟩ x).cell? ⟨b, o, none⟩ = some (celq (((w.setCell ⟨b, i, none⟩ u).setCell ⟨b, j, none⟩ v).setCell ⟨b, k, none⟩ x) b o) := by
  obtain ⟨z, hz⟩ := set_some (e := ⟨b, i, none⟩) (u := u) h
  obtain ⟨z', hz'⟩ := set_some (e := ⟨b, j, none⟩) (u := v) hz
  obtain ⟨z'', hz''⟩ := set_some (e := ⟨b, k, none⟩) (u := x) hz'
  exact celq_of hz''
theorem radd_in {x y z a b c : Int} (hb : inB a b c 16384 = true) (h : inB x y z 32768 = true) : ∀ w, Calls Try.prog 19 #[V3 x y z, V3 a b c] w fun e w' => e = .returned (V3 (x + a) (y + b) (z + c)) ∧ Below w.heap.size w w' := by
  intro w
  rw [inB_iff (by omega) (by omega)] at hb h
  have A := radd_any x y z a b c w
  rw [w64 (x := x + a) (by omega) (by omega), w64 (x := y + b) (by omega) (by omega), w64 (x := z + c) (by omega) (by omega)] at A
  exact A
def MvRel (g B T : Nat) (w0 w1 w2 w3 : Bool) (ps vs q0 q1 q2 q3 q4 : Array Value) (w : World) (k : Nat) (i : Value) (wr : World) : Prop :=
  ((k = 4 ∧ i = .int .i64 0 ∧ 0 ≤ g ∧ (∀ o, wr.cell? ⟨T, o, none⟩ = q0[o]?)) ∨ (k = 3 ∧ i = .int .i64 1 ∧ 1 ≤ g ∧ w0 = true ∧ (∀ o, wr.cell? ⟨T, o, none⟩ = q1[o]?)) ∨ (k = 2 ∧ i = .int .i64 2 ∧ 2 ≤ g ∧ w0 = true ∧ w1 = true ∧ (∀ o, wr.cell? ⟨T, o, none⟩ = q2[o]?)) ∨ (k = 1 ∧ i = .int .i64 3 ∧ 3 ≤ g ∧ w0 = true ∧ w1 = true ∧ w2 = true ∧ (∀ o, wr.cell? ⟨T, o, none⟩ = q3[o]?)) ∨ (k = 0 ∧ i = .int .i64 4 ∧ 4 ≤ g ∧ w0 = true ∧ w1 = true ∧ w2 = true ∧ w3 = true ∧ (∀ o, wr.cell? ⟨T, o, none⟩ = q4[o]?))) ∧
  (∀ o, wr.cell? ⟨B, o, none⟩ = ps[o]?) ∧ (∀ o, wr.cell? ⟨B + 1, o, none⟩ = vs[o]?) ∧ (∀ o, wr.frozen? ⟨T, o, none⟩ = false) ∧ Below B w wr
theorem moved_away (x0 y0 z0 x1 y1 z1 x2 y2 z2 x3 y3 z3 a b c i n : Int) (hb : inB a b c 16384 = false) (w : World) :
    Calls Try.prog 4 #[.agg (C12 x0 y0 z0 x1 y1 z1 x2 y2 z2 x3 y3 z3), V3 a b c, .int .i64 i, .int .i64 n] w fun e w' => e = .returned (.bool true) ∧ Below w.heap.size w w' := by
  have WB := Lib.hid (within_b hb)
  clear hb
  go_enter Try.func4, Try.ntmps4
  go_wp2_with (first
    | (go_at_call 16; ((with_reducible refine (alive11_any _).mono ?_); rintro e w1 ⟨rfl, hb1⟩; have V1 : ∀ o, w1.cell? ⟨w.heap.size + 1, o, none⟩ = (#[.int .i64 a, .int .i64 b, .int .i64 c] : Array Value)[o]? := blk_later (by simp) hb1 (by (repeat (first | (with_reducible assumption) | (focus ((with_reducible refine new_at ?_ _ _); (repeat (first | (with_reducible rfl) | (with_reducible refine sz1 ?_))); done)) | (with_reducible refine blk_alloc (by simp) _ ?_) | (with_reducible refine blk_drew ?_))))))
    | (go_at_call 18; ((with_reducible refine (WB.out _).mono ?_); rintro e w2 ⟨rfl, hb2⟩)))
  go_returns
  exact ⟨by simp, by (repeat' (first | (with_reducible exact Below.refl _ _) | (with_reducible refine bstep (by with_reducible assumption) ?_) | (with_reducible refine Below.alloc ?_ ?_ _) | (with_reducible refine Below.drew ?_) | (with_reducible refine below_drewN ?_ _) | (with_reducible refine Below.setCell ?_ ?_ _) | go_size))⟩
set_option maxHeartbeats 8000000 in
theorem moved_near (x0 y0 z0 x1 y1 z1 x2 y2 z2 x3 y3 z3 a b c i n : Int) (hb : inB a b c 16384 = true) (w : World) :
    Calls Try.prog 4 #[.agg (C12 x0 y0 z0 x1 y1 z1 x2 y2 z2 x3 y3 z3), V3 a b c, .int .i64 i, .int .i64 n] w fun e w' => e = .returned (.bool true) ∧ Below w.heap.size w w' := by
  have WB := Lib.hid (within_b hb)
  obtain ⟨t0, e0⟩ : ∃ t, inB x0 y0 z0 32768 = t := ⟨_, rfl⟩
  have W0 := Lib.hid (within_b e0)
  have A0 := Lib.hid (fun h : t0 = true => radd_in hb (e0.trans h))
  obtain ⟨t1, e1⟩ : ∃ t, inB x1 y1 z1 32768 = t := ⟨_, rfl⟩
  have W1 := Lib.hid (within_b e1)
  have A1 := Lib.hid (fun h : t1 = true => radd_in hb (e1.trans h))
  obtain ⟨t2, e2⟩ : ∃ t, inB x2 y2 z2 32768 = t := ⟨_, rfl⟩
  have W2 := Lib.hid (within_b e2)
  have A2 := Lib.hid (fun h : t2 = true => radd_in hb (e2.trans h))
  obtain ⟨t3, e3⟩ : ∃ t, inB x3 y3 z3 32768 = t := ⟨_, rfl⟩
  have W3 := Lib.hid (within_b e3)
  have A3 := Lib.hid (fun h : t3 = true => radd_in hb (e3.trans h))
  have G := Lib.hid (fun (h0 : t0 = true) (h1 : t1 = true) (h2 : t2 = true) (h3 : t3 = true) => mv_facts x0 y0 z0 x1 y1 z1 x2 y2 z2 x3 y3 z3 a b c i n hb (e0.trans h0) (e1.trans h1) (e2.trans h2) (e3.trans h3))
  clear e0 e1 e2 e3 hb
  go_enter Try.func4, Try.ntmps4
  go_wp2_with (first
    | (go_at_call 16; ((with_reducible refine (alive11_any _).mono ?_); rintro e w1 ⟨rfl, hb1⟩; have P1 : ∀ o, w1.cell? ⟨w.heap.size, o, none⟩ = (C12 x0 y0 z0 x1 y1 z1 x2 y2 z2 x3 y3 z3)[o]? := blk_later (by simp) hb1 (by (repeat (first | (with_reducible assumption) | (focus ((with_reducible refine new_at ?_ _ _); (repeat (first | (with_reducible rfl) | (with_reducible refine sz1 ?_))); done)) | (with_reducible refine blk_alloc (by simp) _ ?_) | (with_reducible refine blk_drew ?_)))); have V1 : ∀ o, w1.cell? ⟨w.heap.size + 1, o, none⟩ = (#[.int .i64 a, .int .i64 b, .int .i64 c] : Array Value)[o]? := blk_later (by simp) hb1 (by (repeat (first | (with_reducible assumption) | (focus ((with_reducible refine new_at ?_ _ _); (repeat (first | (with_reducible rfl) | (with_reducible refine sz1 ?_))); done)) | (with_reducible refine blk_alloc (by simp) _ ?_) | (with_reducible refine blk_drew ?_))))))
    | (go_at_call 18; ((with_reducible refine (WB.out _).mono ?_); rintro e w2 ⟨rfl, hb2⟩; have P2 := blk_later (by simp) hb2 P1; have V2 := blk_later (by simp) hb2 V1; have s2 : w.heap.size + 1 < w2.heap.size := blk_lt (by simp) V2; have s2' : w.heap.size < w2.heap.size := (by omega); clear P1 V1)))
  go_loopg [10] 4 (fun k i wr => MvRel 4 w.heap.size w2.heap.size t0 t1 t2 t3 (C12 x0 y0 z0 x1 y1 z1 x2 y2 z2 x3 y3 z3) #[.int .i64 a, .int .i64 b, .int .i64 c] (C12 x0 y0 z0 x1 y1 z1 x2 y2 z2 x3 y3 z3) (C12 (x0 + a) (y0 + b) (z0 + c) x1 y1 z1 x2 y2 z2 x3 y3 z3) (C12 (x0 + a) (y0 + b) (z0 + c) (x1 + a) (y1 + b) (z1 + c) x2 y2 z2 x3 y3 z3) (C12 (x0 + a) (y0 + b) (z0 + c) (x1 + a) (y1 + b) (z1 + c) (x2 + a) (y2 + b) (z2 + c) x3 y3 z3) (C12 (x0 + a) (y0 + b) (z0 + c) (x1 + a) (y1 + b) (z1 + c) (x2 + a) (y2 + b) (z2 + c) (x3 + a) (y3 + b) (z3 + c)) w k i wr)
  case atStart => exact ⟨.inl ⟨rfl, rfl, by omega, by (repeat (first | (with_reducible assumption) | (focus ((with_reducible refine new_at ?_ _ _); (repeat (first | (with_reducible rfl) | (with_reducible refine sz1 ?_))); done)) | (with_reducible refine blk_alloc (by simp) _ ?_) | (with_reducible refine blk_drew ?_)))⟩, blk_alloc (by simp) _ P2, blk_alloc (by simp) _ V2, by (repeat (first | (with_reducible assumption) | (focus ((with_reducible refine fro_new ?_ _ _); (repeat (first | (with_reducible rfl) | (with_reducible refine sz1 ?_))); done)) | ((with_reducible refine fro_more ?_ _ ?_); (repeat (first | (with_reducible assumption) | (focus ((with_reducible refine lt_new ?_); (repeat (first | (with_reducible rfl) | (with_reducible refine sz1 ?_))); done)) | (with_reducible refine lt_here ?_)))))), by (repeat' (first | (with_reducible exact Below.refl _ _) | (with_reducible refine bstep (by with_reducible assumption) ?_) | (with_reducible refine Below.alloc ?_ ?_ _) | (with_reducible refine Below.drew ?_) | (with_reducible refine below_drewN ?_ _) | (with_reducible refine Below.setCell ?_ ?_ _) | go_size))⟩
  case round =>
    obtain ⟨hk, hp, hv, hf, hB⟩ := hrel
    have HB := Lib.hid hB
    clear hB P2 V2
    have n1 : w2.heap.size ≠ w.heap.size := by omega
    have n2 : w2.heap.size ≠ w.heap.size + 1 := by omega
    rcases hk with ⟨rfl, rfl, hg, hq⟩ | ⟨rfl, rfl, hg, rfl, hq⟩ | ⟨rfl, rfl, hg, rfl, rfl, hq⟩ | ⟨rfl, rfl, hg, rfl, rfl, rfl, hq⟩ | ⟨rfl, rfl, hg, rfl, rfl, rfl, rfl, hq⟩
    · have l1 : w2.heap.size < wr.heap.size := blk_lt (by simp) hq
      have l2 : w.heap.size + 1 < wr.heap.size := blk_lt (by simp) hv
      have l3 : w.heap.size < wr.heap.size := by omega
      cases t0
      · go_wp2_with (go_at_call 18; ((with_reducible refine (W0.out _).mono ?_); rintro e w3 ⟨rfl, hb3⟩))
        have HB' := HB.out
        go_returns
        exact ⟨by simp, by (repeat' (first | (with_reducible exact Below.refl _ _) | (with_reducible refine bstep (by with_reducible assumption) ?_) | (with_reducible refine Below.alloc ?_ ?_ _) | (with_reducible refine Below.drew ?_) | (with_reducible refine below_drewN ?_ _) | (with_reducible refine Below.setCell ?_ ?_ _) | go_size))⟩
      · have AA := Lib.hid (A0.out rfl)
        go_wp2_with (go_at_call 18; ((with_reducible refine (W0.out _).mono ?_); rintro e w3 ⟨rfl, hb3⟩))
        have p3 := blk_later (by simp) hb3 hp
        have v3 := blk_later (by simp) hb3 hv
        have q3 := blk_later (by simp) hb3 hq
        have f3 := fro_call hb3 hf l1
        have l4 : w2.heap.size < w3.heap.size := blk_lt (by simp) q3
        clear hp hv hq hf
        have c0 := celq_of (q3 0)
        have c1 := celq_of (q3 1)
        have c2 := celq_of (q3 2)
        go_region_held3 (fun w' => (∀ o, w'.cell? ⟨w.heap.size, o, none⟩ = (C12 x0 y0 z0 x1 y1 z1 x2 y2 z2 x3 y3 z3)[o]?) ∧ (∀ o, w'.cell? ⟨w.heap.size + 1, o, none⟩ = (#[.int .i64 a, .int .i64 b, .int .i64 c] : Array Value)[o]?) ∧
            w'.cell? ⟨w2.heap.size, 0, none⟩ = some (celq w' w2.heap.size 0) ∧ w'.cell? ⟨w2.heap.size, 1, none⟩ = some (celq w' w2.heap.size 1) ∧ w'.cell? ⟨w2.heap.size, 2, none⟩ = some (celq w' w2.heap.size 2) ∧ (∀ o, w'.frozen? ⟨w2.heap.size, o, none⟩ = false) ∧ w2.heap.size < w'.heap.size)
          (((first | (go_split_ands; skip) | skip); (repeat' apply And.intro) <;> (first | assumption | (with_reducible exact blk_drew (by assumption)) | (with_reducible exact blk_later (by simp) (by assumption) (by assumption)) | (with_reducible exact celq_later (by assumption) (by assumption)) | (with_reducible exact fro_call (by assumption) (by assumption) (by omega)) | (with_reducible exact st3_far (by assumption) (by assumption)) | (with_reducible exact celq_any (by assumption)) | omega | (simp [*, go_sem]; done) | (intro o; simp [*]; done))))
          (first | (go_at_call 19; ((with_reducible refine (AA.out _).mono ?_); rintro e w5 ⟨rfl, hb5⟩; have hs5 := hb5.size)))
        all_goals
          have Q6 := blk_later (by simp) hb5 (blk_drew q3)
          have P6 := blk_later (by simp) hb5 (blk_drew p3)
          have V6 := blk_later (by simp) hb5 (blk_drew v3)
          have F6 := fro_call (W := w3.drew) hb5 f3 l4
          go_wp2_with fail
          go_roundg 3
          case measure => omega
          case rel =>
            have HB' := HB.out
            exact ⟨.inr (.inl ⟨rfl, by simp, by omega, rfl, st3_blk Q6 (by simp) (by simp) (by simp) rfl⟩), st3_far n1 P6, st3_far n2 V6, fun o => by simp [F6], by (repeat' (first | (with_reducible exact Below.refl _ _) | (with_reducible refine bstep (by with_reducible assumption) ?_) | (with_reducible refine Below.alloc ?_ ?_ _) | (with_reducible refine Below.drew ?_) | (with_reducible refine below_drewN ?_ _) | (with_reducible refine Below.setCell ?_ ?_ _) | go_size))⟩
    · have l1 : w2.heap.size < wr.heap.size := blk_lt (by simp) hq
      have l2 : w.heap.size + 1 < wr.heap.size := blk_lt (by simp) hv
      have l3 : w.heap.size < wr.heap.size := by omega
      cases t1
      · go_wp2_with (go_at_call 18; ((with_reducible refine (W1.out _).mono ?_); rintro e w3 ⟨rfl, hb3⟩))
        have HB' := HB.out
        go_returns
        exact ⟨by simp, by (repeat' (first | (with_reducible exact Below.refl _ _) | (with_reducible refine bstep (by with_reducible assumption) ?_) | (with_reducible refine Below.alloc ?_ ?_ _) | (with_reducible refine Below.drew ?_) | (with_reducible refine below_drewN ?_ _) | (with_reducible refine Below.setCell ?_ ?_ _) | go_size))⟩
      · have AA := Lib.hid (A1.out rfl)
        go_wp2_with (go_at_call 18; ((with_reducible refine (W1.out _).mono ?_); rintro e w3 ⟨rfl, hb3⟩))
        have p3 := blk_later (by simp) hb3 hp
        have v3 := blk_later (by simp) hb3 hv
        have q3 := blk_later (by simp) hb3 hq
        have f3 := fro_call hb3 hf l1
        have l4 : w2.heap.size < w3.heap.size := blk_lt (by simp) q3
        clear hp hv hq hf
        have c0 := celq_of (q3 3)
        have c1 := celq_of (q3 4)
        have c2 := celq_of (q3 5)
        go_region_held3 (fun w' => (∀ o, w'.cell? ⟨w.heap.size, o, none⟩ = (C12 x0 y0 z0 x1 y1 z1 x2 y2 z2 x3 y3 z3)[o]?) ∧ (∀ o, w'.cell? ⟨w.heap.size + 1, o, none⟩ = (#[.int .i64 a, .int .i64 b, .int .i64 c] : Array Value)[o]?) ∧
            w'.cell? ⟨w2.heap.size, 3, none⟩ = some (celq w' w2.heap.size 3) ∧ w'.cell? ⟨w2.heap.size, 4, none⟩ = some (celq w' w2.heap.size 4) ∧ w'.cell? ⟨w2.heap.size, 5, none⟩ = some (celq w' w2.heap.size 5) ∧ (∀ o, w'.frozen? ⟨w2.heap.size, o, none⟩ = false) ∧ w2.heap.size < w'.heap.size)
          (((first | (go_split_ands; skip) | skip); (repeat' apply And.intro) <;> (first | assumption | (with_reducible exact blk_drew (by assumption)) | (with_reducible exact blk_later (by simp) (by assumption) (by assumption)) | (with_reducible exact celq_later (by assumption) (by assumption)) | (with_reducible exact fro_call (by assumption) (by assumption) (by omega)) | (with_reducible exact st3_far (by assumption) (by assumption)) | (with_reducible exact celq_any (by assumption)) | omega | (simp [*, go_sem]; done) | (intro o; simp [*]; done))))
          (first | (go_at_call 19; ((with_reducible refine (AA.out _).mono ?_); rintro e w5 ⟨rfl, hb5⟩; have hs5 := hb5.size)))
        all_goals
          have Q6 := blk_later (by simp) hb5 (blk_drew q3)
          have P6 := blk_later (by simp) hb5 (blk_drew p3)
          have V6 := blk_later (by simp) hb5 (blk_drew v3)
          have F6 := fro_call (W := w3.drew) hb5 f3 l4
          go_wp2_with fail
          go_roundg 2
          case measure => omega
          case rel =>
            have HB' := HB.out
            exact ⟨.inr (.inr (.inl ⟨rfl, by simp, by omega, rfl, rfl, st3_blk Q6 (by simp) (by simp) (by simp) rfl⟩)), st3_far n1 P6, st3_far n2 V6, fun o => by simp [F6], by (repeat' (first | (with_reducible exact Below.refl _ _) | (with_reducible refine bstep (by with_reducible assumption) ?_) | (with_reducible refine Below.alloc ?_ ?_ _) | (with_reducible refine Below.drew ?_) | (with_reducible refine below_drewN ?_ _) | (with_reducible refine Below.setCell ?_ ?_ _) | go_size))⟩
    · have l1 : w2.heap.size < wr.heap.size := blk_lt (by simp) hq
      have l2 : w.heap.size + 1 < wr.heap.size := blk_lt (by simp) hv
      have l3 : w.heap.size < wr.heap.size := by omega
      cases t2
      · go_wp2_with (go_at_call 18; ((with_reducible refine (W2.out _).mono ?_); rintro e w3 ⟨rfl, hb3⟩))
        have HB' := HB.out
        go_returns
        exact ⟨by simp, by (repeat' (first | (with_reducible exact Below.refl _ _) | (with_reducible refine bstep (by with_reducible assumption) ?_) | (with_reducible refine Below.alloc ?_ ?_ _) | (with_reducible refine Below.drew ?_) | (with_reducible refine below_drewN ?_ _) | (with_reducible refine Below.setCell ?_ ?_ _) | go_size))⟩
      · have AA := Lib.hid (A2.out rfl)
        go_wp2_with (go_at_call 18; ((with_reducible refine (W2.out _).mono ?_); rintro e w3 ⟨rfl, hb3⟩))
        have p3 := blk_later (by simp) hb3 hp
        have v3 := blk_later (by simp) hb3 hv
        have q3 := blk_later (by simp) hb3 hq
        have f3 := fro_call hb3 hf l1
        have l4 : w2.heap.size < w3.heap.size := blk_lt (by simp) q3
        clear hp hv hq hf
        have c0 := celq_of (q3 6)
        have c1 := celq_of (q3 7)
        have c2 := celq_of (q3 8)
        go_region_held3 (fun w' => (∀ o, w'.cell? ⟨w.heap.size, o, none⟩ = (C12 x0 y0 z0 x1 y1 z1 x2 y2 z2 x3 y3 z3)[o]?) ∧ (∀ o, w'.cell? ⟨w.heap.size + 1, o, none⟩ = (#[.int .i64 a, .int .i64 b, .int .i64 c] : Array Value)[o]?) ∧
            w'.cell? ⟨w2.heap.size, 6, none⟩ = some (celq w' w2.heap.size 6) ∧ w'.cell? ⟨w2.heap.size, 7, none⟩ = some (celq w' w2.heap.size 7) ∧ w'.cell? ⟨w2.heap.size, 8, none⟩ = some (celq w' w2.heap.size 8) ∧ (∀ o, w'.frozen? ⟨w2.heap.size, o, none⟩ = false) ∧ w2.heap.size < w'.heap.size)
          (((first | (go_split_ands; skip) | skip); (repeat' apply And.intro) <;> (first | assumption | (with_reducible exact blk_drew (by assumption)) | (with_reducible exact blk_later (by simp) (by assumption) (by assumption)) | (with_reducible exact celq_later (by assumption) (by assumption)) | (with_reducible exact fro_call (by assumption) (by assumption) (by omega)) | (with_reducible exact st3_far (by assumption) (by assumption)) | (with_reducible exact celq_any (by assumption)) | omega | (simp [*, go_sem]; done) | (intro o; simp [*]; done))))
          (first | (go_at_call 19; ((with_reducible refine (AA.out _).mono ?_); rintro e w5 ⟨rfl, hb5⟩; have hs5 := hb5.size)))
        all_goals
          have Q6 := blk_later (by simp) hb5 (blk_drew q3)
          have P6 := blk_later (by simp) hb5 (blk_drew p3)
          have V6 := blk_later (by simp) hb5 (blk_drew v3)
          have F6 := fro_call (W := w3.drew) hb5 f3 l4
          go_wp2_with fail
          go_roundg 1
          case measure => omega
          case rel =>
            have HB' := HB.out
            exact ⟨.inr (.inr (.inr (.inl ⟨rfl, by simp, by omega, rfl, rfl, rfl, st3_blk Q6 (by simp) (by simp) (by simp) rfl⟩))), st3_far n1 P6, st3_far n2 V6, fun o => by simp [F6], by (repeat' (first | (with_reducible exact Below.refl _ _) | (with_reducible refine bstep (by with_reducible assumption) ?_) | (with_reducible refine Below.alloc ?_ ?_ _) | (with_reducible refine Below.drew ?_) | (with_reducible refine below_drewN ?_ _) | (with_reducible refine Below.setCell ?_ ?_ _) | go_size))⟩
    · have l1 : w2.heap.size < wr.heap.size := blk_lt (by simp) hq
      have l2 : w.heap.size + 1 < wr.heap.size := blk_lt (by simp) hv
      have l3 : w.heap.size < wr.heap.size := by omega
      cases t3
      · go_wp2_with (go_at_call 18; ((with_reducible refine (W3.out _).mono ?_); rintro e w3 ⟨rfl, hb3⟩))
        have HB' := HB.out
        go_returns
        exact ⟨by simp, by (repeat' (first | (with_reducible exact Below.refl _ _) | (with_reducible refine bstep (by with_reducible assumption) ?_) | (with_reducible refine Below.alloc ?_ ?_ _) | (with_reducible refine Below.drew ?_) | (with_reducible refine below_drewN ?_ _) | (with_reducible refine Below.setCell ?_ ?_ _) | go_size))⟩
      · have AA := Lib.hid (A3.out rfl)
        go_wp2_with (go_at_call 18; ((with_reducible refine (W3.out _).mono ?_); rintro e w3 ⟨rfl, hb3⟩))
        have p3 := blk_later (by simp) hb3 hp
        have v3 := blk_later (by simp) hb3 hv
        have q3 := blk_later (by simp) hb3 hq
        have f3 := fro_call hb3 hf l1
        have l4 : w2.heap.size < w3.heap.size := blk_lt (by simp) q3
        clear hp hv hq hf
        have c0 := celq_of (q3 9)
        have c1 := celq_of (q3 10)
        have c2 := celq_of (q3 11)
        go_region_held3 (fun w' => (∀ o, w'.cell? ⟨w.heap.size, o, none⟩ = (C12 x0 y0 z0 x1 y1 z1 x2 y2 z2 x3 y3 z3)[o]?) ∧ (∀ o, w'.cell? ⟨w.heap.size + 1, o, none⟩ = (#[.int .i64 a, .int .i64 b, .int .i64 c] : Array Value)[o]?) ∧
            w'.cell? ⟨w2.heap.size, 9, none⟩ = some (celq w' w2.heap.size 9) ∧ w'.cell? ⟨w2.heap.size, 10, none⟩ = some (celq w' w2.heap.size 10) ∧ w'.cell? ⟨w2.heap.size, 11, none⟩ = some (celq w' w2.heap.size 11) ∧ (∀ o, w'.frozen? ⟨w2.heap.size, o, none⟩ = false) ∧ w2.heap.size < w'.heap.size)
          (((first | (go_split_ands; skip) | skip); (repeat' apply And.intro) <;> (first | assumption | (with_reducible exact blk_drew (by assumption)) | (with_reducible exact blk_later (by simp) (by assumption) (by assumption)) | (with_reducible exact celq_later (by assumption) (by assumption)) | (with_reducible exact fro_call (by assumption) (by assumption) (by omega)) | (with_reducible exact st3_far (by assumption) (by assumption)) | (with_reducible exact celq_any (by assumption)) | omega | (simp [*, go_sem]; done) | (intro o; simp [*]; done))))
          (first | (go_at_call 19; ((with_reducible refine (AA.out _).mono ?_); rintro e w5 ⟨rfl, hb5⟩; have hs5 := hb5.size)))
        all_goals
          have Q6 := blk_later (by simp) hb5 (blk_drew q3)
          have P6 := blk_later (by simp) hb5 (blk_drew p3)
          have V6 := blk_later (by simp) hb5 (blk_drew v3)
          have F6 := fro_call (W := w3.drew) hb5 f3 l4
          go_wp2_with fail
          go_roundg 0
          case measure => omega
          case rel =>
            have HB' := HB.out
            exact ⟨.inr (.inr (.inr (.inr (⟨rfl, by simp, by omega, rfl, rfl, rfl, rfl, st3_blk Q6 (by simp) (by simp) (by simp) rfl⟩)))), st3_far n1 P6, st3_far n2 V6, fun o => by simp [F6], by (repeat' (first | (with_reducible exact Below.refl _ _) | (with_reducible refine bstep (by with_reducible assumption) ?_) | (with_reducible refine Below.alloc ?_ ?_ _) | (with_reducible refine Below.drew ?_) | (with_reducible refine below_drewN ?_ _) | (with_reducible refine Below.setCell ?_ ?_ _) | go_size))⟩
    · obtain ⟨ok, p, q, r, p2, q2, r2, p3, q3, r3, K, L, M, H⟩ := G.out rfl rfl rfl rfl
      have K := Lib.hid K
      have L := Lib.hid L
      have M := Lib.hid M
      have l1 : w2.heap.size < wr.heap.size := blk_lt (by simp) hq
      have l2 : w.heap.size + 1 < wr.heap.size := blk_lt (by simp) hv
      have l3 : w.heap.size < wr.heap.size := by omega
      cases ok
      · clear H
        go_wp2_with (first
          | (go_at_call 17; ((with_reducible refine (K.out _).mono ?_); rintro e v1 ⟨rfl, gb1⟩; have Q1 := blk_later (by simp) gb1 hq; have V1 := blk_later (by simp) gb1 hv; have s1 : w2.heap.size < v1.heap.size := blk_lt (by simp) Q1; have s1' : w.heap.size + 1 < v1.heap.size := blk_lt (by simp) V1))
          | (go_at_call 17; ((with_reducible refine (L.out _).mono ?_); rintro e v2 ⟨rfl, gb2⟩; have V2 := blk_later (by simp) gb2 (blk_alloc (by simp) _ V1); have s2 : w.heap.size + 1 < v2.heap.size := blk_lt (by simp) V2))
          | (go_at_call 17; ((with_reducible refine (M.out _).mono ?_); rintro e v3 ⟨rfl, gb3⟩; have V3' := blk_later (by simp) gb3 (blk_alloc (by simp) _ V2); have s3 : w.heap.size + 1 < v3.heap.size := blk_lt (by simp) V3')))
        have HB' := HB.out
        go_returns
        exact ⟨by simp, by (repeat' (first | (with_reducible exact Below.refl _ _) | (with_reducible refine bstep (by with_reducible assumption) ?_) | (with_reducible refine Below.alloc ?_ ?_ _) | (with_reducible refine Below.drew ?_) | (with_reducible refine below_drewN ?_ _) | (with_reducible refine Below.setCell ?_ ?_ _) | go_size))⟩
      · obtain ⟨⟨rfl, rfl, rfl⟩, AD⟩ := H rfl
        have AD := Lib.hid AD
        clear H
        go_wp2_with (first
          | (go_at_call 17; ((with_reducible refine (K.out _).mono ?_); rintro e v1 ⟨rfl, gb1⟩; have Q1 := blk_later (by simp) gb1 hq; have V1 := blk_later (by simp) gb1 hv; have s1 : w2.heap.size < v1.heap.size := blk_lt (by simp) Q1; have s1' : w.heap.size + 1 < v1.heap.size := blk_lt (by simp) V1; clear hq hv hp))
          | (go_at_call 17; ((with_reducible refine (L.out _).mono ?_); rintro e v2 ⟨rfl, gb2⟩; have V2 := blk_later (by simp) gb2 (blk_alloc (by simp) _ V1); have X2 := blk_later (by simp) gb2 (new_at rfl _ _); have s2 : w.heap.size + 1 < v2.heap.size := blk_lt (by simp) V2; have s2' : v1.heap.size < v2.heap.size := blk_lt (by simp) X2; clear Q1 V1))
          | (go_at_call 17; ((with_reducible refine (M.out _).mono ?_); rintro e v3 ⟨rfl, gb3⟩; have V3' := blk_later (by simp) gb3 (blk_alloc (by simp) _ V2); have X3 := blk_later (by simp) gb3 (blk_alloc (by simp) _ X2); have Y3 := blk_later (by simp) gb3 (new_at rfl _ _); have s3 : w.heap.size + 1 < v3.heap.size := blk_lt (by simp) V3'; have s3' : v1.heap.size < v3.heap.size := blk_lt (by simp) X3; have s3'' : v2.heap.size < v3.heap.size := blk_lt (by simp) Y3; clear V2 X2)))
        have V4 := blk_alloc (by simp) (.cells #[.int .i64 p3, .int .i64 q3, .int .i64 r3] 23) V3'
        have X4 := blk_alloc (by simp) (.cells #[.int .i64 p3, .int .i64 q3, .int .i64 r3] 23) X3
        have Y4 := blk_alloc (by simp) (.cells #[.int .i64 p3, .int .i64 q3, .int .i64 r3] 23) Y3
        have Z4 : ∀ o, (v3.alloc (.cells #[.int .i64 p3, .int .i64 q3, .int .i64 r3] 23)).cell? ⟨v3.heap.size, o, none⟩ = (#[.int .i64 p3, .int .i64 q3, .int .i64 r3] : Array Value)[o]? := new_at rfl _ _
        go_region_held3 (fun w' => (∀ o, w'.cell? ⟨w.heap.size + 1, o, none⟩ = (#[.int .i64 p3, .int .i64 q3, .int .i64 r3] : Array Value)[o]?) ∧ (∀ o, w'.cell? ⟨v1.heap.size, o, none⟩ = (#[.int .i64 p, .int .i64 q, .int .i64 r] : Array Value)[o]?) ∧ (∀ o, w'.cell? ⟨v2.heap.size, o, none⟩ = (#[.int .i64 p2, .int .i64 q2, .int .i64 r2] : Array Value)[o]?) ∧ (∀ o, w'.cell? ⟨v3.heap.size, o, none⟩ = (#[.int .i64 p3, .int .i64 q3, .int .i64 r3] : Array Value)[o]?))
          (((first | (go_split_ands; skip) | skip); (repeat' apply And.intro) <;> (first | assumption | (with_reducible exact blk_drew (by assumption)) | (with_reducible exact blk_later (by simp) (by assumption) (by assumption)))))
          (first | (go_at_call 19; ((with_reducible refine (AD.out _).mono ?_); rintro e v5 ⟨rfl, gb5⟩; have gs5 := gb5.size)))
        all_goals
          go_wp2_with fail
          have HB' := HB.out
          go_returns
          exact ⟨by simp, by (repeat' (first | (with_reducible exact Below.refl _ _) | (with_reducible refine bstep (by with_reducible assumption) ?_) | (with_reducible refine Below.alloc ?_ ?_ _) | (with_reducible refine Below.drew ?_) | (with_reducible refine below_drewN ?_ _) | (with_reducible refine Below.setCell ?_ ?_ _) | go_size))⟩
theorem curveMoved_walk (xs : List Int) (hl : xs.length = 12) (_ : ∀ x ∈ xs, I64 x) (a b c : Int) (_ : I64 a) (_ : I64 b) (_ : I64 c) (i : Int) (hi : I64 i) (n : Int) (hn : I64 n) (w : World) :
    Calls Try.prog 4 #[.agg (xs.map (Value.int .i64)).toArray, V3 a b c, .int .i64 i, .int .i64 n] w fun e w' => e = .returned (.bool true) ∧ Below w.heap.size w w' := by
  obtain ⟨x0, y0, z0, x1, y1, z1, x2, y2, z2, x3, y3, z3, rfl⟩ := list12 hl
  cases hb : inB a b c 16384
  · exact moved_away x0 y0 z0 x1 y1 z1 x2 y2 z2 x3 y3 z3 a b c i n hb w
  · exact moved_near x0 y0 z0 x1 y1 z1 x2 y2 z2 x3 y3 z3 a b c i n hb w
end Go.Proofs.Ytdemcleibpgglaa
