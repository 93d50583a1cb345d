/- The law on weave's spots, walked: for all rates of 64 bits it answers true. -/
import Derived.Test.YtoalihdempcbjaaRWv4
import Derived.Test.YtoalihdempcbjaaWCounts
namespace Go.Proofs.Ytoalihdempcbjaa
open Go.RowKit
set_option maxRecDepth 100000
set_option linter.unusedSimpArgs false
set_option linter.unusedVariables false
def WvG (t : Bool) (L T : List T3) (w : World) (e : Ending) (w' : World) : Prop := ∃ p c q d, e = .returned (.tuple #[.slice p L.length c, .slice q T.length d, .bool t]) ∧ Sps w' w.heap.size (.slice p L.length c) L.length L ∧ Trs w' w.heap.size (.slice q T.length d) T.length T ∧ Below w.heap.size w w'
theorem weave_all (a b c d : Int) : ∃ (t : Bool) (L T : List T3), L.length ≤ 289 ∧ T.length ≤ 1000 ∧
    (∀ w, Calls Try.prog 22 #[.agg #[.int .i64 a, .int .i64 b, .int .i64 c, .int .i64 d]] w (WvG t L T w)) ∧
    (∀ w, Calls Try.prog 23 #[.agg #[.int .i64 a, .int .i64 b, .int .i64 c, .int .i64 d]] w (WvG t L T w)) := by
  by_cases h : ok4 a b c d
  · obtain ⟨R, hR, rfl, rfl, rfl, rfl⟩ := ok4_nat h
    obtain ⟨_, _, _, _, g4, g5, _⟩ := counts_good R hR
    exact ⟨true, spotsN R, trisN R, g5, g4, fun w => weave_yes R hR w, fun w => rweave_yes R hR w⟩
  · exact ⟨false, [], [], by simp, by simp, fun w => (weave_no a b c d h w).mono fun e w' ⟨he, hb⟩ => ⟨none, 0, none, 0, he, World.ownsRow_nil _ _ _ _, World.ownsRow_nil _ _ _ _, hb⟩, fun w => (rweave_no a b c d h w).mono fun e w' ⟨he, hb⟩ => ⟨none, 0, none, 0, he, World.ownsRow_nil _ _ _ _, World.ownsRow_nil _ _ _ _, hb⟩⟩
theorem eqA_refl (a b c : Int) (w : World) : Sem.run Try.prog (Op.equalIn 10000 51 (.agg #[.int .i64 a, .int .i64 b, .int .i64 c]) (.agg #[.int .i64 a, .int .i64 b, .int .i64 c])) w = .ok true w := by
  rw [show (10000 : Nat) = 9999 + 1 from rfl, Op.equalIn]
  simp only [Sem.run_bind, run_underlying Try.underlying51, Result.andThen_ok]
  simp only [Std.Legacy.Range.forIn_eq_forIn_range', Std.Legacy.Range.size, Nat.sub_zero, Nat.add_sub_cancel, Nat.div_one, List.range'_succ, List.range'_zero, List.forIn_cons, List.forIn_nil]
  go_simp
set_option maxHeartbeats 8000000 in
theorem weaveSpots_walk (xs : List Int) (hl : xs.length = 4) (_ : ∀ x ∈ xs, I64 x) (w : World) : Calls Try.prog 7 #[.agg (xs.map (Value.int .i64)).toArray] w fun e w' => e = .returned (.bool true) ∧ Below w.heap.size w w' := by
  match xs, hl with
  | [a, b, c, d], _ =>
    show Calls Try.prog 7 #[.agg #[.int .i64 a, .int .i64 b, .int .i64 c, .int .i64 d]] w fun e w' => e = .returned (.bool true) ∧ Below w.heap.size w w'
    obtain ⟨t, L, T, hL, hT, W1, W2⟩ := weave_all a b c d
    obtain ⟨N, hN⟩ : ∃ N, L.length = N := ⟨_, rfl⟩
    obtain ⟨M, hM⟩ : ∃ M, T.length = M := ⟨_, rfl⟩
    rw [hN] at hL
    rw [hM] at hT
    have W1 := Lib.hid (fun w => (W1 w).mono fun e w' h => (show ∃ p c q d, e = .returned (.tuple #[.slice p N c, .slice q M d, .bool t]) ∧ Sps w' w.heap.size (.slice p N c) N L ∧ Trs w' w.heap.size (.slice q M d) M T ∧ Below w.heap.size w w' from by rw [← hN, ← hM]; exact h))
    have W2 := Lib.hid (fun w => (W2 w).mono fun e w' h => (show ∃ p c q d, e = .returned (.tuple #[.slice p N c, .slice q M d, .bool t]) ∧ Sps w' w.heap.size (.slice p N c) N L ∧ Trs w' w.heap.size (.slice q M d) M T ∧ Below w.heap.size w w' from by rw [← hN, ← hM]; exact h))
    have HN := Lib.hid hN
    have HM := Lib.hid hM
    have EA := eqA_refl
    clear hN hM
    go_enter Try.func7, Try.ntmps7
    go_wp2_with (first
      | (go_at_call 21; ((with_reducible refine (alive13_any _).mono ?_); rintro e w1 ⟨rfl, hb1⟩; have HB1 := Lib.hid ((by (repeat' (first | (with_reducible exact Below.refl _ _) | (with_reducible refine bstep (by with_reducible assumption) ?_) | (with_reducible refine Below.alloc ?_ ?_ _) | (with_reducible refine Below.drew ?_) | (with_reducible refine below_drewN ?_ _) | (with_reducible refine Below.setCell ?_ ?_ _) | go_size))) : Below w.heap.size w w1); have C1 : ∀ o, w1.cell? ⟨w.heap.size, o, none⟩ = (#[.int .i64 a, .int .i64 b, .int .i64 c, .int .i64 d] : Array Value)[o]? := blk_later (by simp) hb1 (by (repeat (first | (with_reducible assumption) | (focus ((with_reducible refine new_at ?_ _ _); (repeat (first | (with_reducible rfl) | (with_reducible refine sz1 ?_))); done)) | (with_reducible refine blk_alloc (by simp) _ ?_) | (with_reducible refine blk_drew ?_)))); clear hb1))
      | (go_at_call 22; ((with_reducible refine (W1.out _).mono ?_); rintro e w2 ⟨p1, c1, q1, d1, rfl, s1, t1, hb2⟩; have HB2 := Lib.hid (bstep hb2 HB1.out); have C2 := blk_later (by simp) hb2 C1; have SP1 := Lib.hid s1; have TR1 := Lib.hid t1; clear hb2 s1 t1))
      | (go_at_call 23; ((with_reducible refine (W2.out _).mono ?_); rintro e w3 ⟨p2, c2, q2, d2, rfl, s2, t2, hb3⟩; have HB3 := Lib.hid (bstep hb3 HB2.out); have SQ1 := Lib.hid (row_below SP1.out hb3); have TQ1 := Lib.hid (row_below TR1.out hb3); have SQ2 := Lib.hid s2; have TQ2 := Lib.hid t2; clear hb3 s2 t2)))
    go_loopg [9] N (fun k i wr => VaRel N w3.heap.size w3 k i wr)
    case atStart => exact ⟨0, by omega, rfl, rfl, Below.refl _ _⟩
    case round =>
      obtain ⟨j, hj, rfl, rfl, hb⟩ := hrel
      have HBW := Lib.hid hb
      by_cases hlt : j < N
      · obtain ⟨g, rfl, hg, hgl, hgc⟩ := row3_cell SQ1.out (by omega)
        obtain ⟨g', rfl, hg', hgl', hgc'⟩ := row3_cell SQ2.out (by omega)
        obtain ⟨e0, e1, e2⟩ := hgc j (by omega)
        obtain ⟨f0, f1, f2⟩ := hgc' j (by omega)
        have x0 := (hb.cell (p := ⟨g, j * 3, none⟩) hg).trans e0
        have x1 := (hb.cell (p := ⟨g, j * 3 + 1, none⟩) hg).trans e1
        have x2 := (hb.cell (p := ⟨g, j * 3 + 2, none⟩) hg).trans e2
        have y0 := (hb.cell (p := ⟨g', j * 3, none⟩) hg').trans f0
        have y1 := (hb.cell (p := ⟨g', j * 3 + 1, none⟩) hg').trans f1
        have y2 := (hb.cell (p := ⟨g', j * 3 + 2, none⟩) hg').trans f2
        generalize ((L[j]'(by omega)).1 : Int) = X0 at x0 y0
        generalize ((L[j]'(by omega)).2.1 : Int) = X1 at x1 y1
        generalize ((L[j]'(by omega)).2.2 : Int) = X2 at x2 y2
        have hj0 : (0 : Int) ≤ (j : Int) := by omega
        have hj1 : (j : Int) < (N : Int) := by omega
        clear hb hgc hgc' e0 e1 e2 f0 f1 f2 hgl hgl'
        go_wp2_with fail
        go_quiet (fail)
        go_wp2_with fail
        go_roundg (N - (j + 1))
        case measure => omega
        case rel => exact ⟨j + 1, by omega, rfl, by simp, below_drewN HBW.out _⟩
      · obtain rfl : j = N := by omega
        have hj1 : ¬ ((j : Int) < (j : Int)) := by omega
        clear hb
        go_wp2_with fail
        go_loopg [10] M (fun k i wr => VaRel M w3.heap.size w3 k i wr)
        case atStart => exact ⟨0, by omega, rfl, rfl, HBW.out⟩
        case round =>
          obtain ⟨k, hk, rfl, rfl, hb⟩ := hrel
          have HBV := Lib.hid hb
          by_cases hltk : k < M
          · obtain ⟨g, rfl, hg, hgl, hgc⟩ := row3_cell TQ1.out (by omega)
            obtain ⟨g', rfl, hg', hgl', hgc'⟩ := row3_cell TQ2.out (by omega)
            obtain ⟨e0, e1, e2⟩ := hgc k (by omega)
            obtain ⟨f0, f1, f2⟩ := hgc' k (by omega)
            have x0 := (hb.cell (p := ⟨g, k * 3, none⟩) hg).trans e0
            have x1 := (hb.cell (p := ⟨g, k * 3 + 1, none⟩) hg).trans e1
            have x2 := (hb.cell (p := ⟨g, k * 3 + 2, none⟩) hg).trans e2
            have y0 := (hb.cell (p := ⟨g', k * 3, none⟩) hg').trans f0
            have y1 := (hb.cell (p := ⟨g', k * 3 + 1, none⟩) hg').trans f1
            have y2 := (hb.cell (p := ⟨g', k * 3 + 2, none⟩) hg').trans f2
            generalize ((T[k]'(by omega)).1 : Int) = X0 at x0 y0
            generalize ((T[k]'(by omega)).2.1 : Int) = X1 at x1 y1
            generalize ((T[k]'(by omega)).2.2 : Int) = X2 at x2 y2
            have hj0 : (0 : Int) ≤ (k : Int) := by omega
            have hj1' : (k : Int) < (M : Int) := by omega
            clear hb hgc hgc' e0 e1 e2 f0 f1 f2 hgl hgl'
            go_wp2_with fail
            go_quiet (fail)
            go_wp2_with fail
            go_roundg (M - (k + 1))
            case measure => omega
            case rel => exact ⟨k + 1, by omega, rfl, by simp, below_drewN HBV.out _⟩
          · obtain rfl : k = M := by omega
            have hk1 : ¬ ((k : Int) < (k : Int)) := by omega
            clear hb
            go_wp2_with fail
            have HB' := bstep HBV.out HB3.out
            go_returns
            exact ⟨by simp, HB'⟩
end Go.Proofs.Ytoalihdempcbjaa
