/- The law on curves' and patches' points, walked: for all points and numbers of 64 bits it answers true. -/
import Derived.Test.YtdemcleibpgglaaRefPt
import Derived.Test.YtdemcleibpgglaaRowX
import Derived.Test.YtdemcleibpgglaaQuiet
import Derived.Test.YtdemcleibpgglaaBack
namespace Go.Proofs.Ytdemcleibpgglaa
open Go.RowKit
set_option maxRecDepth 100000
set_option linter.unusedSimpArgs false
set_option linter.unusedVariables false
theorem eqV4_refl (z0 z1 z2 z3 z4 z5 z6 z7 z8 z9 z10 z11 : Int) (w : World) : Sem.run Try.prog (Op.equalIn 10000 24 (.agg (C12 z0 z1 z2 z3 z4 z5 z6 z7 z8 z9 z10 z11)) (.agg (C12 z0 z1 z2 z3 z4 z5 z6 z7 z8 z9 z10 z11))) w = .ok true w := by
  rw [show (10000 : Nat) = 9999 + 1 from rfl, Op.equalIn]
  simp only [Sem.run_bind, run_underlying Try.underlying24, Result.andThen_ok]
  simp only [Std.Legacy.Range.forIn_eq_forIn_range', Std.Legacy.Range.size, Nat.sub_zero, Nat.add_sub_cancel, Nat.div_one, List.range'_succ, List.range'_zero, List.forIn_cons, List.forIn_nil]
  go_simp
theorem q_arr {op : Oper} {a : Act} {K : World → Prop} {w : World} (x : Operand) (ho : op.op = .load 42 x) (b : Nat) (hx : a.eval x = .pointer (some ⟨b, 0, none⟩)) (cs : Array Value) (hs : cs.size = 48) (hc : ∀ o, w.cell? ⟨b, o, none⟩ = cs[o]?) : op.quietAt Try.prog a K w (.agg cs) := by
  have R := run_loadVar_mid (P := Try.prog) w b 0 42 cs.toList _ (fun j v hv => by rw [Nat.zero_add, hc j]; simpa using hv) Try.underlying42 rfl (by rw [info48]; simp [hs])
  unfold Oper.quietAt execOp
  simp only [ho, hx, Instr.loadAt, Instr.sureAddr, Sem.run_bind, Sem.run_pure, Result.andThen_ok, R, Oper.quietUpon]
  simp
def PtC (B T1 T2 T3 T4 : Nat) (cs c d : Array Value) (w w' : World) : Prop := (∀ o, w'.cell? ⟨B, o, none⟩ = cs[o]?) ∧ (∀ o, w'.cell? ⟨T1, o, none⟩ = c[o]?) ∧ (∀ o, w'.cell? ⟨T2, o, none⟩ = c[o]?) ∧ (∀ o, w'.cell? ⟨T3, o, none⟩ = d[o]?) ∧ (∀ o, w'.cell? ⟨T4, o, none⟩ = d[o]?) ∧ Below w.heap.size w w'
set_option maxHeartbeats 8000000 in
theorem points_flat (cs : Array Value) (X : Nat → Int) (hX : Is48 cs X) (i n j m : Int) (w : World) :
    Calls Try.prog 10 #[.agg cs, .int .i64 i, .int .i64 n, .int .i64 j, .int .i64 m] w fun e w' => e = .returned (.bool true) ∧ Below w.heap.size w w' := by
  obtain ⟨z0, z1, z2, z3, z4, z5, z6, z7, z8, z9, z10, z11, R1, R2⟩ := row_both cs X hX i
  have R1 := Lib.hid R1
  have R2 := Lib.hid R2
  have EQ := eqV4_refl z0 z1 z2 z3 z4 z5 z6 z7 z8 z9 z10 z11
  obtain ⟨ok, hok⟩ : ∃ t, okC (X 0) (X 1) (X 2) (X 3) (X 4) (X 5) (X 6) (X 7) (X 8) (X 9) (X 10) (X 11) i n = t := ⟨_, rfl⟩
  obtain ⟨p1, hp⟩ : ∃ t, cub ok (X 0) (X 3) (X 6) (X 9) i n = t := ⟨_, rfl⟩
  obtain ⟨q1, hq⟩ : ∃ t, cub ok (X 1) (X 4) (X 7) (X 10) i n = t := ⟨_, rfl⟩
  obtain ⟨r1, hr⟩ : ∃ t, cub ok (X 2) (X 5) (X 8) (X 11) i n = t := ⟨_, rfl⟩
  have C1 := Lib.hid (cubic_is (X 0) (X 1) (X 2) (X 3) (X 4) (X 5) (X 6) (X 7) (X 8) (X 9) (X 10) (X 11) i n ok p1 q1 r1 hok hp hq hr)
  have C2 := Lib.hid (rcubic_is (X 0) (X 1) (X 2) (X 3) (X 4) (X 5) (X 6) (X 7) (X 8) (X 9) (X 10) (X 11) i n ok p1 q1 r1 hok hp hq hr)
  obtain ⟨is, his⟩ : ∃ t, okPt X i n j m = t := ⟨_, rfl⟩
  obtain ⟨p2, hp'⟩ : ∃ t, ptF is X 0 i n j m = t := ⟨_, rfl⟩
  obtain ⟨q2, hq'⟩ : ∃ t, ptF is X 1 i n j m = t := ⟨_, rfl⟩
  obtain ⟨r2, hr'⟩ : ∃ t, ptF is X 2 i n j m = t := ⟨_, rfl⟩
  have P1 := Lib.hid (point_is cs X hX i n j m is p2 q2 r2 his hp' hq' hr')
  have P2 := Lib.hid (rpoint_is cs X hX i n j m is p2 q2 r2 his hp' hq' hr')
  clear hok hp hq hr his hp' hq' hr'
  obtain ⟨hs48, hx⟩ := hX
  have HX := Lib.hid hx
  have hs0 : 0 < cs.size := by omega
  have u0 := hx 0 (by omega)
  have u1 := hx 1 (by omega)
  have u2 := hx 2 (by omega)
  have u3 := hx 3 (by omega)
  have u4 := hx 4 (by omega)
  have u5 := hx 5 (by omega)
  have u6 := hx 6 (by omega)
  have u7 := hx 7 (by omega)
  have u8 := hx 8 (by omega)
  have u9 := hx 9 (by omega)
  have u10 := hx 10 (by omega)
  have u11 := hx 11 (by omega)
  clear hx
  go_enter Try.func10, Try.ntmps10
  go_wp2_with (first
    | (go_at_call 16; ((with_reducible refine (alive11_any _).mono ?_); rintro e w1 ⟨rfl, hb1⟩; have A1 := Lib.hid (blk_later hs0 hb1 (by (repeat (first | (with_reducible assumption) | (focus ((with_reducible refine new_at ?_ _ _); (repeat (first | (with_reducible rfl) | (with_reducible refine sz1 ?_))); done)) | (with_reducible refine blk_alloc hs0 _ ?_) | (with_reducible refine blk_drew ?_)))) : ∀ o, w1.cell? ⟨w.heap.size, o, none⟩ = cs[o]?); have s1 : w.heap.size < w1.heap.size := blk_lt hs0 A1.out; have a0 := (A1.out 0).trans u0; have a1 := (A1.out 1).trans u1; have a2 := (A1.out 2).trans u2; have a3 := (A1.out 3).trans u3; have a4 := (A1.out 4).trans u4; have a5 := (A1.out 5).trans u5; have a6 := (A1.out 6).trans u6; have a7 := (A1.out 7).trans u7; have a8 := (A1.out 8).trans u8; have a9 := (A1.out 9).trans u9; have a10 := (A1.out 10).trans u10; have a11 := (A1.out 11).trans u11; clear u0 u1 u2 u3 u4 u5 u6 u7 u8 u9 u10 u11))
    | (((refine (load_arr rfl _ rfl w.heap.size rfl cs hs48 ?_ ?_)); (focus ((repeat (first | (with_reducible exact Hid.out (by assumption)) | (with_reducible refine blk_alloc hs0 _ ?_) | (with_reducible refine blk_drew ?_)))))))
    | (go_at_call 17; ((with_reducible refine (C1.out _).mono ?_); rintro e v1 ⟨rfl, gb1⟩; have c1 : ∀ o, v1.cell? ⟨w1.heap.size, o, none⟩ = (C12 (X 0) (X 1) (X 2) (X 3) (X 4) (X 5) (X 6) (X 7) (X 8) (X 9) (X 10) (X 11))[o]? := blk_later (by simp) gb1 (new_at rfl _ _); have B1 := Lib.hid (blk_later hs0 gb1 (blk_alloc hs0 _ A1.out)); have t1 : w1.heap.size < v1.heap.size := blk_lt (by simp) c1))
    | (go_at_call 28; ((with_reducible refine (C2.out _).mono ?_); rintro e v2 ⟨rfl, gb2⟩; have a2 := blk_later (by simp) gb2 (new_at rfl _ _); have B2 := Lib.hid (blk_later (cs := cs) hs0 gb2 (blk_alloc hs0 _ B1.out)); have t2 : v1.heap.size < v2.heap.size := blk_lt (by simp) a2; have t2w : w.heap.size < v2.heap.size := blk_lt hs0 B2.out; clear c1))
    | (go_at_call 25; ((with_reducible refine (P1.out _).mono ?_); rintro e v3 ⟨rfl, gb3⟩; have a3 := blk_later (by simp) gb3 (blk_alloc (by simp) _ a2); have b3 := blk_later (by simp) gb3 (new_at rfl _ _); have B3 := Lib.hid (blk_later (cs := cs) hs0 gb3 (blk_alloc hs0 _ B2.out)); have t3 : v2.heap.size < v3.heap.size := blk_lt (by simp) b3; have t3w : w.heap.size < v3.heap.size := blk_lt hs0 B3.out; clear a2))
    | (go_at_call 29; ((with_reducible refine (P2.out _).mono ?_); rintro e v4 ⟨rfl, gb4⟩; have a4 := blk_later (by simp) gb4 (blk_alloc (by simp) _ a3); have b4 := blk_later (by simp) gb4 (blk_alloc (by simp) _ b3); have x4 := blk_later (by simp) gb4 (new_at rfl _ _); have B4 := Lib.hid (blk_later (cs := cs) hs0 gb4 (blk_alloc hs0 _ B3.out)); have t4 : v3.heap.size < v4.heap.size := blk_lt (by simp) x4; have t4w : w.heap.size < v4.heap.size := blk_lt hs0 B4.out; clear a3 b3)))
  refine region_quiet (PtC w.heap.size v1.heap.size v2.heap.size v3.heap.size v4.heap.size cs (#[.int .i64 p1, .int .i64 q1, .int .i64 r1] : Array Value) (#[.int .i64 p2, .int .i64 q2, .int .i64 r2] : Array Value) w) (by kernel_rfl) (by kernel_rfl) ?_ ?_
  · (try dsimp only); (exact ⟨blk_alloc hs0 _ B4.out, blk_alloc (by simp) _ a4, blk_alloc (by simp) _ b4, blk_alloc (by simp) _ x4, new_at rfl _ _, by (repeat' (first | (with_reducible exact Below.refl _ _) | (with_reducible refine bstep (by with_reducible assumption) ?_) | (with_reducible refine Below.alloc ?_ ?_ _) | (with_reducible refine Below.drew ?_) | (with_reducible refine below_drewN ?_ _) | (with_reducible refine Below.setCell ?_ ?_ _) | go_size))⟩)
  refine q_want ?_ (by rfl) (fun wo hSw => ?_) ?_
  rotate_left
  · obtain ⟨g1, g2, g3, g4, g5, g6⟩ := id hSw; go_simp; (try with_reducible rfl)
  try simp only [Act.put, List.setIfInBounds_toArray, List.set_cons_zero, List.set_cons_succ]
  refine q_want ?_ (by rfl) (fun wo hSw => ?_) ?_
  rotate_left
  · obtain ⟨g1, g2, g3, g4, g5, g6⟩ := id hSw; go_simp; (try with_reducible rfl)
  try simp only [Act.put, List.setIfInBounds_toArray, List.set_cons_zero, List.set_cons_succ]
  refine q_want ?_ (by rfl) (fun wo hSw => ?_) ?_
  rotate_left
  · obtain ⟨g1, g2, g3, g4, g5, g6⟩ := id hSw; go_simp; (try with_reducible rfl)
  try simp only [Act.put, List.setIfInBounds_toArray, List.set_cons_zero, List.set_cons_succ]
  refine q_want ?_ (by rfl) (fun wo hSw => ?_) ?_
  rotate_left
  · obtain ⟨g1, g2, g3, g4, g5, g6⟩ := id hSw; go_simp; (try with_reducible rfl)
  try simp only [Act.put, List.setIfInBounds_toArray, List.set_cons_zero, List.set_cons_succ]
  refine q_want ?_ (by rfl) (fun wo hSw => ?_) ?_
  rotate_left
  · obtain ⟨g1, g2, g3, g4, g5, g6⟩ := id hSw; go_simp; (try with_reducible rfl)
  try simp only [Act.put, List.setIfInBounds_toArray, List.set_cons_zero, List.set_cons_succ]
  refine q_want ?_ (by rfl) (fun wo hSw => ?_) ?_
  rotate_left
  · obtain ⟨g1, g2, g3, g4, g5, g6⟩ := id hSw; go_simp; (try with_reducible rfl)
  try simp only [Act.put, List.setIfInBounds_toArray, List.set_cons_zero, List.set_cons_succ]
  refine q_want ?_ (by rfl) (fun wo hSw => ?_) ?_
  rotate_left
  · obtain ⟨g1, g2, g3, g4, g5, g6⟩ := id hSw; go_simp; (try with_reducible rfl)
  try simp only [Act.put, List.setIfInBounds_toArray, List.set_cons_zero, List.set_cons_succ]
  refine q_want ?_ (by rfl) (fun wo hSw => ?_) ?_
  rotate_left
  · obtain ⟨g1, g2, g3, g4, g5, g6⟩ := id hSw; go_simp; (try with_reducible rfl)
  try simp only [Act.put, List.setIfInBounds_toArray, List.set_cons_zero, List.set_cons_succ]
  refine q_want ?_ (by rfl) (fun wo hSw => ?_) ?_
  rotate_left
  · obtain ⟨g1, g2, g3, g4, g5, g6⟩ := id hSw; go_simp; (try with_reducible rfl)
  try simp only [Act.put, List.setIfInBounds_toArray, List.set_cons_zero, List.set_cons_succ]
  refine q_want ?_ (by rfl) (fun wo hSw => ?_) ?_
  rotate_left
  · obtain ⟨g1, g2, g3, g4, g5, g6⟩ := id hSw; go_simp; (try with_reducible rfl)
  try simp only [Act.put, List.setIfInBounds_toArray, List.set_cons_zero, List.set_cons_succ]
  refine q_want ?_ (by rfl) (fun wo hSw => ?_) ?_
  rotate_left
  · obtain ⟨g1, g2, g3, g4, g5, g6⟩ := id hSw; go_simp; (try with_reducible rfl)
  try simp only [Act.put, List.setIfInBounds_toArray, List.set_cons_zero, List.set_cons_succ]
  refine q_want ?_ (by rfl) (fun wo hSw => ?_) ?_
  rotate_left
  · obtain ⟨g1, g2, g3, g4, g5, g6⟩ := id hSw; go_simp; (try with_reducible rfl)
  try simp only [Act.put, List.setIfInBounds_toArray, List.set_cons_zero, List.set_cons_succ]
  refine q_want ?_ (by rfl) (fun wo hSw => ?_) ?_
  rotate_left
  · obtain ⟨g1, g2, g3, g4, g5, g6⟩ := id hSw; go_simp; (try with_reducible rfl)
  try simp only [Act.put, List.setIfInBounds_toArray, List.set_cons_zero, List.set_cons_succ]
  refine q_want ?_ (by rfl) (fun wo hSw => ?_) ?_
  rotate_left
  · obtain ⟨g1, g2, g3, g4, g5, g6⟩ := id hSw; go_simp; (try with_reducible rfl)
  try simp only [Act.put, List.setIfInBounds_toArray, List.set_cons_zero, List.set_cons_succ]
  refine q_want ?_ (by rfl) (fun wo hSw => ?_) ?_
  rotate_left
  · obtain ⟨g1, g2, g3, g4, g5, g6⟩ := id hSw; go_simp; (try with_reducible rfl)
  try simp only [Act.put, List.setIfInBounds_toArray, List.set_cons_zero, List.set_cons_succ]
  refine q_want ?_ (by rfl) (fun wo hSw => ?_) ?_
  rotate_left
  · obtain ⟨g1, g2, g3, g4, g5, g6⟩ := id hSw; go_simp; (try with_reducible rfl)
  try simp only [Act.put, List.setIfInBounds_toArray, List.set_cons_zero, List.set_cons_succ]
  refine q_want ?_ (by rfl) (fun wo hSw => ?_) ?_
  rotate_left
  · obtain ⟨g1, g2, g3, g4, g5, g6⟩ := id hSw; go_simp; (try with_reducible rfl)
  try simp only [Act.put, List.setIfInBounds_toArray, List.set_cons_zero, List.set_cons_succ]
  refine q_want ?_ (by rfl) (fun wo hSw => ?_) ?_
  rotate_left
  · obtain ⟨g1, g2, g3, g4, g5, g6⟩ := id hSw; go_simp; (try with_reducible rfl)
  try simp only [Act.put, List.setIfInBounds_toArray, List.set_cons_zero, List.set_cons_succ]
  refine q_want ?_ (by rfl) (fun wo hSw => ?_) ?_
  rotate_left
  · obtain ⟨g1, g2, g3, g4, g5, g6⟩ := id hSw; go_simp; (try with_reducible rfl)
  try simp only [Act.put, List.setIfInBounds_toArray, List.set_cons_zero, List.set_cons_succ]
  refine q_want (.agg cs) (by rfl) (fun wo hSw => ?_) ?_
  · obtain ⟨g1, g2, g3, g4, g5, g6⟩ := id hSw; exact q_arr _ rfl _ rfl cs hs48 g1
  try simp only [Act.put, List.setIfInBounds_toArray, List.set_cons_zero, List.set_cons_succ]
  refine q_want ?_ (by rfl) (fun wo hSw => ?_) ?_
  rotate_left
  · obtain ⟨g1, g2, g3, g4, g5, g6⟩ := id hSw; go_simp; (try with_reducible rfl)
  try simp only [Act.put, List.setIfInBounds_toArray, List.set_cons_zero, List.set_cons_succ]
  refine q_want (.agg (C12 z0 z1 z2 z3 z4 z5 z6 z7 z8 z9 z10 z11)) (by rfl) (fun wo hSw => ?_) ?_
  · obtain ⟨g1, g2, g3, g4, g5, g6⟩ := id hSw; go_simp; (go_at_call 30; ((with_reducible refine (R1.out _).mono ?_); rintro e w9 ⟨rfl, hb9⟩; exact ⟨rfl, blk_later hs0 hb9 g1, blk_later (by simp) hb9 g2, blk_later (by simp) hb9 g3, blk_later (by simp) hb9 g4, blk_later (by simp) hb9 g5, bstep hb9 g6⟩))
  try simp only [Act.put, List.setIfInBounds_toArray, List.set_cons_zero, List.set_cons_succ]
  refine q_want (.agg cs) (by rfl) (fun wo hSw => ?_) ?_
  · obtain ⟨g1, g2, g3, g4, g5, g6⟩ := id hSw; exact q_arr _ rfl _ rfl cs hs48 g1
  try simp only [Act.put, List.setIfInBounds_toArray, List.set_cons_zero, List.set_cons_succ]
  refine q_want ?_ (by rfl) (fun wo hSw => ?_) ?_
  rotate_left
  · obtain ⟨g1, g2, g3, g4, g5, g6⟩ := id hSw; go_simp; (try with_reducible rfl)
  try simp only [Act.put, List.setIfInBounds_toArray, List.set_cons_zero, List.set_cons_succ]
  refine q_want (.agg (C12 z0 z1 z2 z3 z4 z5 z6 z7 z8 z9 z10 z11)) (by rfl) (fun wo hSw => ?_) ?_
  · obtain ⟨g1, g2, g3, g4, g5, g6⟩ := id hSw; go_simp; (go_at_call 31; ((with_reducible refine (R2.out _).mono ?_); rintro e w9 ⟨rfl, hb9⟩; exact ⟨rfl, blk_later hs0 hb9 g1, blk_later (by simp) hb9 g2, blk_later (by simp) hb9 g3, blk_later (by simp) hb9 g4, blk_later (by simp) hb9 g5, bstep hb9 g6⟩))
  try simp only [Act.put, List.setIfInBounds_toArray, List.set_cons_zero, List.set_cons_succ]
  refine q_want ?_ (by rfl) (fun wo hSw => ?_) ?_
  rotate_left
  · obtain ⟨g1, g2, g3, g4, g5, g6⟩ := id hSw; go_simp; (try with_reducible rfl)
  try simp only [Act.put, List.setIfInBounds_toArray, List.set_cons_zero, List.set_cons_succ]
  refine q_want ?_ (by rfl) (fun wo hSw => ?_) ?_
  rotate_left
  · obtain ⟨g1, g2, g3, g4, g5, g6⟩ := id hSw; go_simp; (try with_reducible rfl)
  try simp only [Act.put, List.setIfInBounds_toArray, List.set_cons_zero, List.set_cons_succ]
  refine q_want ?_ (by rfl) (fun wo hSw => ?_) ?_
  rotate_left
  · obtain ⟨g1, g2, g3, g4, g5, g6⟩ := id hSw; go_simp; (try with_reducible rfl)
  try simp only [Act.put, List.setIfInBounds_toArray, List.set_cons_zero, List.set_cons_succ]
  refine wpQuiet_nil ?_
  intro wq hSq
  obtain ⟨_, _, _, _, _, hB⟩ := hSq
  have HB := Lib.hid hB
  clear hB
  go_wp2_with fail
  have HB' := HB.out
  go_returns
  exact ⟨by simp, by (repeat' (first | (with_reducible exact Below.refl _ _) | (with_reducible refine bstep (by with_reducible assumption) ?_) | (with_reducible refine Below.alloc ?_ ?_ _) | (with_reducible refine Below.drew ?_) | (with_reducible refine below_drewN ?_ _) | (with_reducible refine Below.setCell ?_ ?_ _) | go_size))⟩
theorem curvePoints_walk (xs : List Int) (hl : xs.length = 48) (_ : ∀ x ∈ xs, I64 x) (i : Int) (_ : I64 i) (n : Int) (_ : I64 n) (j : Int) (_ : I64 j) (m : Int) (_ : I64 m) (w : World) :
    Calls Try.prog 10 #[.agg (xs.map (Value.int .i64)).toArray, .int .i64 i, .int .i64 n, .int .i64 j, .int .i64 m] w fun e w' => e = .returned (.bool true) ∧ Below w.heap.size w w' :=
  points_flat _ _ (is48_list hl) i n j m w
end Go.Proofs.Ytdemcleibpgglaa
