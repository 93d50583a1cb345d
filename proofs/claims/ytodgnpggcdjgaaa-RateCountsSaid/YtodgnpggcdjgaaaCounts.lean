/- The law on the numbers of parts, walked: for all points and units of 64 bits it answers true. -/
import Derived.Test.YtodgnpggcdjgaaaRSides
namespace Go.Proofs.Ytodgnpggcdjgaaa
open Go.RowKit
set_option maxRecDepth 100000
set_option linter.unusedSimpArgs false
set_option linter.unusedVariables false
theorem eq4_refl (a b c d : Int) (w : World) : Sem.run Try.prog (Op.equalIn 10000 53 (.agg (C4i a b c d)) (.agg (C4i a b c d))) w = .ok true w := by
  rw [show (10000 : Nat) = 9999 + 1 from rfl, Op.equalIn]
  simp only [Sem.run_bind, run_underlying Try.underlying53, Result.andThen_ok]
  simp only [Std.Legacy.Range.forIn_eq_forIn_range', Std.Legacy.Range.size, Nat.sub_zero, Nat.add_sub_cancel, Nat.div_one, List.range'_succ, List.range'_zero, List.forIn_cons, List.forIn_nil]
  go_simp
theorem q_arr {op : Oper} {a : Act} {K : World → Prop} {w : World} (x : Operand) (ho : op.op = .load 52 x) (b : Nat) (hx : a.eval x = .pointer (some ⟨b, 0, none⟩)) (cs : Array Value) (hs : cs.size = 48) (hc : ∀ o, w.cell? ⟨b, o, none⟩ = cs[o]?) : op.quietAt Try.prog a K w (.agg cs) := by
  have R := run_loadVar_mid (P := Try.prog) w b 0 52 cs.toList _ (fun j v hv => by rw [Nat.zero_add, hc j]; simpa using hv) Try.underlying52 rfl (by rw [info48]; simp [hs])
  unfold Oper.quietAt execOp
  simp only [ho, hx, Instr.loadAt, Instr.sureAddr, Sem.run_bind, Sem.run_pure, Result.andThen_ok, R, Oper.quietUpon]
  simp
def CntC (B T : Nat) (cs c : Array Value) (w w' : World) : Prop := (∀ o, w'.cell? ⟨B, o, none⟩ = cs[o]?) ∧ (∀ o, w'.cell? ⟨T, o, none⟩ = c[o]?) ∧ Below w.heap.size w w'
set_option maxHeartbeats 8000000 in
theorem counts_flat (cs : Array Value) (X : Nat → Int) (hX : Is48 cs X) (unit : Int) (w : World) :
    Calls Try.prog 12 #[.agg cs, .int .i64 unit] w fun e w' => e = .returned (.bool true) ∧ Below w.heap.size w w' := by
  obtain ⟨e0, h0⟩ : ∃ e, edgP (X 0) (X 1) (X 2) (X 3) (X 4) (X 5) (X 6) (X 7) (X 8) (X 9) (X 10) (X 11) unit = e := ⟨_, rfl⟩
  obtain ⟨e1, h1⟩ : ∃ e, edgP (X 9) (X 10) (X 11) (X 21) (X 22) (X 23) (X 33) (X 34) (X 35) (X 45) (X 46) (X 47) unit = e := ⟨_, rfl⟩
  obtain ⟨e2, h2⟩ : ∃ e, edgP (X 45) (X 46) (X 47) (X 42) (X 43) (X 44) (X 39) (X 40) (X 41) (X 36) (X 37) (X 38) unit = e := ⟨_, rfl⟩
  obtain ⟨e3, h3⟩ : ∃ e, edgP (X 36) (X 37) (X 38) (X 24) (X 25) (X 26) (X 12) (X 13) (X 14) (X 0) (X 1) (X 2) unit = e := ⟨_, rfl⟩
  have S1 := Lib.hid (sides_is cs X hX unit e0 e1 e2 e3 h0 h1 h2 h3)
  have S2 := Lib.hid (rsides_is cs X hX unit e0 e1 e2 e3 h0 h1 h2 h3)
  have E1 : Hid (∀ w, Calls Try.prog 15 #[.agg (C12 (X 0) (X 1) (X 2) (X 3) (X 4) (X 5) (X 6) (X 7) (X 8) (X 9) (X 10) (X 11)), .int .i64 unit] w fun e w' => e = .returned (.int .i64 e0) ∧ Below w.heap.size w w') := by
    intro w; have := edge_any (X 0) (X 1) (X 2) (X 3) (X 4) (X 5) (X 6) (X 7) (X 8) (X 9) (X 10) (X 11) unit w; rw [show edgeF (allIn (X 0) (X 1) (X 2) (X 3) (X 4) (X 5) (X 6) (X 7) (X 8) (X 9) (X 10) (X 11)) (lenF (X 0) (X 1) (X 2) (X 3) (X 4) (X 5) (X 6) (X 7) (X 8) (X 9) (X 10) (X 11)) unit = e0 from h0] at this; exact this
  have E2 : Hid (∀ w, Calls Try.prog 37 #[.agg (C12 (X 0) (X 1) (X 2) (X 3) (X 4) (X 5) (X 6) (X 7) (X 8) (X 9) (X 10) (X 11)), .int .i64 unit] w fun e w' => e = .returned (.int .i64 e0) ∧ Below w.heap.size w w') := by
    intro w; have := redge_any (X 0) (X 1) (X 2) (X 3) (X 4) (X 5) (X 6) (X 7) (X 8) (X 9) (X 10) (X 11) unit w; rw [show edgeF (allIn (X 0) (X 1) (X 2) (X 3) (X 4) (X 5) (X 6) (X 7) (X 8) (X 9) (X 10) (X 11)) (lenF (X 0) (X 1) (X 2) (X 3) (X 4) (X 5) (X 6) (X 7) (X 8) (X 9) (X 10) (X 11)) unit = e0 from h0] at this; exact this
  have L1 := len_any (X 0) (X 1) (X 2) (X 3) (X 4) (X 5) (X 6) (X 7) (X 8) (X 9) (X 10) (X 11)
  have L2 := rlen_any (X 0) (X 1) (X 2) (X 3) (X 4) (X 5) (X 6) (X 7) (X 8) (X 9) (X 10) (X 11)
  obtain ⟨n, hn⟩ : ∃ n, (if allIn (X 0) (X 1) (X 2) (X 3) (X 4) (X 5) (X 6) (X 7) (X 8) (X 9) (X 10) (X 11) = true then lenF (X 0) (X 1) (X 2) (X 3) (X 4) (X 5) (X 6) (X 7) (X 8) (X 9) (X 10) (X 11) else 0) = n := ⟨_, rfl⟩
  obtain ⟨ok, hok⟩ : ∃ n, allIn (X 0) (X 1) (X 2) (X 3) (X 4) (X 5) (X 6) (X 7) (X 8) (X 9) (X 10) (X 11) = n := ⟨_, rfl⟩
  rw [hn, hok] at L1 L2
  have L1 := Lib.hid L1
  have L2 := Lib.hid L2
  clear hn hok
  have EQ := eq4_refl e0 e1 e2 e3
  obtain ⟨hs48, hx⟩ := hX
  have HX := Lib.hid hx
  have hs0 : 0 < cs.size := by omega
  have u0 := hx 0 (by omega)
  have u1 := hx 1 (by omega)
  have u2 := hx 2 (by omega)
  have u3 := hx 3 (by omega)
  have u4 := hx 4 (by omega)
  have u5 := hx 5 (by omega)
  have u6 := hx 6 (by omega)
  have u7 := hx 7 (by omega)
  have u8 := hx 8 (by omega)
  have u9 := hx 9 (by omega)
  have u10 := hx 10 (by omega)
  have u11 := hx 11 (by omega)
  clear hx h0 h1 h2 h3
  go_enter Try.func12, Try.ntmps12
  go_wp2_with (first
    | (go_at_call 14; ((with_reducible refine (alive12_any _).mono ?_); rintro e w1 ⟨rfl, hb1⟩; have A1 := Lib.hid (blk_later hs0 hb1 (by (repeat (first | (with_reducible assumption) | (focus ((with_reducible refine new_at ?_ _ _); (repeat (first | (with_reducible rfl) | (with_reducible refine sz1 ?_))); done)) | (with_reducible refine blk_alloc hs0 _ ?_) | (with_reducible refine blk_drew ?_)))) : ∀ o, w1.cell? ⟨w.heap.size, o, none⟩ = cs[o]?); have s1 : w.heap.size < w1.heap.size := blk_lt hs0 A1.out; have a0 := (A1.out 0).trans u0; have a1 := (A1.out 1).trans u1; have a2 := (A1.out 2).trans u2; have a3 := (A1.out 3).trans u3; have a4 := (A1.out 4).trans u4; have a5 := (A1.out 5).trans u5; have a6 := (A1.out 6).trans u6; have a7 := (A1.out 7).trans u7; have a8 := (A1.out 8).trans u8; have a9 := (A1.out 9).trans u9; have a10 := (A1.out 10).trans u10; have a11 := (A1.out 11).trans u11; clear u0 u1 u2 u3 u4 u5 u6 u7 u8 u9 u10 u11))
    | (go_at_call 16; ((with_reducible refine (L1.out _).mono ?_); rintro e v1 ⟨rfl, gb1⟩; have c1 : ∀ o, v1.cell? ⟨w1.heap.size, o, none⟩ = (C12 (X 0) (X 1) (X 2) (X 3) (X 4) (X 5) (X 6) (X 7) (X 8) (X 9) (X 10) (X 11))[o]? := blk_later (by simp) gb1 (new_at rfl _ _); have B1 := Lib.hid (blk_later hs0 gb1 (blk_alloc hs0 _ A1.out)); have t1 : w1.heap.size < v1.heap.size := blk_lt (by simp) c1))
    | (go_at_call 36; ((with_reducible refine (L2.out _).mono ?_); rintro e v2 ⟨rfl, gb2⟩; have c2 := blk_later (by simp) gb2 c1; have B2 := Lib.hid (blk_later (cs := cs) hs0 gb2 B1.out))))
  refine region_quiet (CntC w.heap.size w1.heap.size cs (C12 (X 0) (X 1) (X 2) (X 3) (X 4) (X 5) (X 6) (X 7) (X 8) (X 9) (X 10) (X 11)) w) (by kernel_rfl) (by kernel_rfl) ?_ ?_
  · (try dsimp only); (exact ⟨B2.out, c2, by (repeat' (first | (with_reducible exact Below.refl _ _) | (with_reducible refine bstep (by with_reducible assumption) ?_) | (with_reducible refine Below.alloc ?_ ?_ _) | (with_reducible refine Below.drew ?_) | (with_reducible refine below_drewN ?_ _) | (with_reducible refine Below.setCell ?_ ?_ _) | go_size))⟩)
  refine q_want ?_ (by rfl) (fun wo hSw => ?_) ?_
  rotate_left
  · obtain ⟨q1, q2, q3⟩ := id hSw; go_simp; (try with_reducible rfl)
  try simp only [Act.put, List.setIfInBounds_toArray, List.set_cons_zero, List.set_cons_succ]
  refine q_want ?_ (by rfl) (fun wo hSw => ?_) ?_
  rotate_left
  · obtain ⟨q1, q2, q3⟩ := id hSw; go_simp; (try with_reducible rfl)
  try simp only [Act.put, List.setIfInBounds_toArray, List.set_cons_zero, List.set_cons_succ]
  refine q_want ?_ (by rfl) (fun wo hSw => ?_) ?_
  rotate_left
  · obtain ⟨q1, q2, q3⟩ := id hSw; go_simp; (try with_reducible rfl)
  try simp only [Act.put, List.setIfInBounds_toArray, List.set_cons_zero, List.set_cons_succ]
  refine q_want ?_ (by rfl) (fun wo hSw => ?_) ?_
  rotate_left
  · obtain ⟨q1, q2, q3⟩ := id hSw; go_simp; (try with_reducible rfl)
  try simp only [Act.put, List.setIfInBounds_toArray, List.set_cons_zero, List.set_cons_succ]
  refine q_want ?_ (by rfl) (fun wo hSw => ?_) ?_
  rotate_left
  · obtain ⟨q1, q2, q3⟩ := id hSw; go_simp; (try with_reducible rfl)
  try simp only [Act.put, List.setIfInBounds_toArray, List.set_cons_zero, List.set_cons_succ]
  refine q_want ?_ (by rfl) (fun wo hSw => ?_) ?_
  rotate_left
  · obtain ⟨q1, q2, q3⟩ := id hSw; go_simp; (try with_reducible rfl)
  try simp only [Act.put, List.setIfInBounds_toArray, List.set_cons_zero, List.set_cons_succ]
  refine q_want ?_ (by rfl) (fun wo hSw => ?_) ?_
  rotate_left
  · obtain ⟨q1, q2, q3⟩ := id hSw; go_simp; (try with_reducible rfl)
  try simp only [Act.put, List.setIfInBounds_toArray, List.set_cons_zero, List.set_cons_succ]
  refine q_want ?_ (by rfl) (fun wo hSw => ?_) ?_
  rotate_left
  · obtain ⟨q1, q2, q3⟩ := id hSw; go_simp; (try with_reducible rfl)
  try simp only [Act.put, List.setIfInBounds_toArray, List.set_cons_zero, List.set_cons_succ]
  refine q_want ?_ (by rfl) (fun wo hSw => ?_) ?_
  rotate_left
  · obtain ⟨q1, q2, q3⟩ := id hSw; go_simp; (try with_reducible rfl)
  try simp only [Act.put, List.setIfInBounds_toArray, List.set_cons_zero, List.set_cons_succ]
  refine q_want ?_ (by rfl) (fun wo hSw => ?_) ?_
  rotate_left
  · obtain ⟨q1, q2, q3⟩ := id hSw; go_simp; (try with_reducible rfl)
  try simp only [Act.put, List.setIfInBounds_toArray, List.set_cons_zero, List.set_cons_succ]
  refine q_want ?_ (by rfl) (fun wo hSw => ?_) ?_
  rotate_left
  · obtain ⟨q1, q2, q3⟩ := id hSw; go_simp; (try with_reducible rfl)
  try simp only [Act.put, List.setIfInBounds_toArray, List.set_cons_zero, List.set_cons_succ]
  refine q_want (.int .i64 e0) (by rfl) (fun wo hSw => ?_) ?_
  · obtain ⟨q1, q2, q3⟩ := id hSw; go_simp; (go_at_call 15; ((with_reducible refine (E1.out _).mono ?_); rintro e w9 ⟨rfl, hb9⟩; exact ⟨rfl, blk_later hs0 hb9 q1, blk_later (by simp) hb9 q2, bstep hb9 q3⟩))
  try simp only [Act.put, List.setIfInBounds_toArray, List.set_cons_zero, List.set_cons_succ]
  refine q_want ?_ (by rfl) (fun wo hSw => ?_) ?_
  rotate_left
  · obtain ⟨q1, q2, q3⟩ := id hSw; go_simp; (try with_reducible rfl)
  try simp only [Act.put, List.setIfInBounds_toArray, List.set_cons_zero, List.set_cons_succ]
  refine q_want ?_ (by rfl) (fun wo hSw => ?_) ?_
  rotate_left
  · obtain ⟨q1, q2, q3⟩ := id hSw; go_simp; (try with_reducible rfl)
  try simp only [Act.put, List.setIfInBounds_toArray, List.set_cons_zero, List.set_cons_succ]
  refine q_want (.int .i64 e0) (by rfl) (fun wo hSw => ?_) ?_
  · obtain ⟨q1, q2, q3⟩ := id hSw; go_simp; (go_at_call 37; ((with_reducible refine (E2.out _).mono ?_); rintro e w9 ⟨rfl, hb9⟩; exact ⟨rfl, blk_later hs0 hb9 q1, blk_later (by simp) hb9 q2, bstep hb9 q3⟩))
  try simp only [Act.put, List.setIfInBounds_toArray, List.set_cons_zero, List.set_cons_succ]
  refine q_want ?_ (by rfl) (fun wo hSw => ?_) ?_
  rotate_left
  · obtain ⟨q1, q2, q3⟩ := id hSw; go_simp; (try with_reducible rfl)
  try simp only [Act.put, List.setIfInBounds_toArray, List.set_cons_zero, List.set_cons_succ]
  refine q_want ?_ (by rfl) (fun wo hSw => ?_) ?_
  rotate_left
  · obtain ⟨q1, q2, q3⟩ := id hSw; go_simp; (try with_reducible rfl)
  try simp only [Act.put, List.setIfInBounds_toArray, List.set_cons_zero, List.set_cons_succ]
  refine q_want ?_ (by rfl) (fun wo hSw => ?_) ?_
  rotate_left
  · obtain ⟨q1, q2, q3⟩ := id hSw; go_simp; (try with_reducible rfl)
  try simp only [Act.put, List.setIfInBounds_toArray, List.set_cons_zero, List.set_cons_succ]
  refine q_want (.agg cs) (by rfl) (fun wo hSw => ?_) ?_
  · obtain ⟨q1, q2, q3⟩ := id hSw; exact q_arr _ rfl _ rfl cs hs48 q1
  try simp only [Act.put, List.setIfInBounds_toArray, List.set_cons_zero, List.set_cons_succ]
  refine q_want ?_ (by rfl) (fun wo hSw => ?_) ?_
  rotate_left
  · obtain ⟨q1, q2, q3⟩ := id hSw; go_simp; (try with_reducible rfl)
  try simp only [Act.put, List.setIfInBounds_toArray, List.set_cons_zero, List.set_cons_succ]
  refine q_want (.agg (C4i e0 e1 e2 e3)) (by rfl) (fun wo hSw => ?_) ?_
  · obtain ⟨q1, q2, q3⟩ := id hSw; go_simp; (go_at_call 38; ((with_reducible refine (S1.out _).mono ?_); rintro e w9 ⟨rfl, hb9⟩; exact ⟨rfl, blk_later hs0 hb9 q1, blk_later (by simp) hb9 q2, bstep hb9 q3⟩))
  try simp only [Act.put, List.setIfInBounds_toArray, List.set_cons_zero, List.set_cons_succ]
  refine q_want (.agg cs) (by rfl) (fun wo hSw => ?_) ?_
  · obtain ⟨q1, q2, q3⟩ := id hSw; exact q_arr _ rfl _ rfl cs hs48 q1
  try simp only [Act.put, List.setIfInBounds_toArray, List.set_cons_zero, List.set_cons_succ]
  refine q_want ?_ (by rfl) (fun wo hSw => ?_) ?_
  rotate_left
  · obtain ⟨q1, q2, q3⟩ := id hSw; go_simp; (try with_reducible rfl)
  try simp only [Act.put, List.setIfInBounds_toArray, List.set_cons_zero, List.set_cons_succ]
  refine q_want (.agg (C4i e0 e1 e2 e3)) (by rfl) (fun wo hSw => ?_) ?_
  · obtain ⟨q1, q2, q3⟩ := id hSw; go_simp; (go_at_call 39; ((with_reducible refine (S2.out _).mono ?_); rintro e w9 ⟨rfl, hb9⟩; exact ⟨rfl, blk_later hs0 hb9 q1, blk_later (by simp) hb9 q2, bstep hb9 q3⟩))
  try simp only [Act.put, List.setIfInBounds_toArray, List.set_cons_zero, List.set_cons_succ]
  refine q_want ?_ (by rfl) (fun wo hSw => ?_) ?_
  rotate_left
  · obtain ⟨q1, q2, q3⟩ := id hSw; go_simp; (try with_reducible rfl)
  try simp only [Act.put, List.setIfInBounds_toArray, List.set_cons_zero, List.set_cons_succ]
  refine q_want ?_ (by rfl) (fun wo hSw => ?_) ?_
  rotate_left
  · obtain ⟨q1, q2, q3⟩ := id hSw; go_simp; (try with_reducible rfl)
  try simp only [Act.put, List.setIfInBounds_toArray, List.set_cons_zero, List.set_cons_succ]
  refine q_want ?_ (by rfl) (fun wo hSw => ?_) ?_
  rotate_left
  · obtain ⟨q1, q2, q3⟩ := id hSw; go_simp; (try with_reducible rfl)
  try simp only [Act.put, List.setIfInBounds_toArray, List.set_cons_zero, List.set_cons_succ]
  refine wpQuiet_nil ?_
  intro wq hSq
  obtain ⟨_, _, hB⟩ := hSq
  have HB := Lib.hid hB
  clear hB
  go_wp2_with fail
  have HB' := HB.out
  go_returns
  exact ⟨by simp, by (repeat' (first | (with_reducible exact Below.refl _ _) | (with_reducible refine bstep (by with_reducible assumption) ?_) | (with_reducible refine Below.alloc ?_ ?_ _) | (with_reducible refine Below.drew ?_) | (with_reducible refine below_drewN ?_ _) | (with_reducible refine Below.setCell ?_ ?_ _) | go_size))⟩
theorem rateCounts_walk (xs : List Int) (hl : xs.length = 48) (_ : ∀ x ∈ xs, I64 x) (unit : Int) (_ : I64 unit) (w : World) :
    Calls Try.prog 12 #[.agg (xs.map (Value.int .i64)).toArray, .int .i64 unit] w fun e w' => e = .returned (.bool true) ∧ Below w.heap.size w w' :=
  counts_flat _ _ (is48_list hl) unit w
end Go.Proofs.Ytodgnpggcdjgaaa
