/- The law on rates told backwards, walked: for all points and units of 64 bits it answers true. -/
import Derived.Test.YtbmemnbfdbpdkaaSidesR
import Derived.Deep.WholeRow
namespace Go.Proofs.Ytbmemnbfdbpdkaa
open Go.RowKit
set_option maxRecDepth 100000
set_option linter.unusedSimpArgs false
set_option linter.unusedVariables false
theorem store_new {ops : Array Oper} {rest : List Oper} {op : Oper} {a : Act} {w0 : World} {Q : Exit → Act → World → Prop} (hgd : op.guard = none) (x y : Operand) (ho : op.op = .store 52 x y) (n : Nat) (hn : w0.heap.size = n) (c c' : Array Value)
    (hx : a.eval x = .pointer (some ⟨n, 0, none⟩)) (hy : a.eval y = .agg c') (hs : c.size = 48) (hs' : c'.size = 48) (h1 : c'.all (·.oneCell') = true) (h : wpList Try.prog ops Q rest (a.put op.dst undef) (w0.alloc (.cells c' 52))) :
    wpList Try.prog ops Q (op :: rest) a (w0.alloc (.cells c 52)) := by
  subst hn
  refine wpList_plain hgd fun _ hK => ?_
  unfold Oper.wp execOp
  simp only [ho, hx, hy, Instr.storeAt, Instr.sureAddr, Sem.run_bind, Sem.run_pure, Result.andThen_ok, run_storeVar_new w0 52 c c' (by rw [info48, hs']) (by omega) h1]
  exact hK _ _ h
def src (q : Nat) : Nat := 4 * (q % 4) + 3 - q / 4
/-- The turned patch's cells, behind k stores. -/
def tn (X : Nat → Int) : Nat → Array Value
  | 0 => (List.replicate 48 (Value.int .i64 0)).toArray
  | k + 1 => (((tn X k).setIfInBounds (3 * k) (.int .i64 (X (3 * src k)))).setIfInBounds (3 * k + 1) (.int .i64 (X (3 * src k + 1)))).setIfInBounds (3 * k + 2) (.int .i64 (X (3 * src k + 2)))
theorem tn_step (X : Nat → Int) (k a b c s0 s1 s2 : Nat) (ha : a = 3 * k) (hb : b = 3 * k + 1) (hc : c = 3 * k + 2) (h0 : s0 = 3 * src k) (h1 : s1 = 3 * src k + 1) (h2 : s2 = 3 * src k + 2) : (((tn X k).setIfInBounds a (.int .i64 (X s0))).setIfInBounds b (.int .i64 (X s1))).setIfInBounds c (.int .i64 (X s2)) = tn X (k + 1) := by
  subst ha hb hc h0 h1 h2; rfl
theorem tn_size (X : Nat → Int) : ∀ k, (tn X k).size = 48
  | 0 => by simp [tn]
  | k + 1 => by simp [tn, tn_size X k]
theorem tn_get (X : Nat → Int) : ∀ k, ∀ o, o < 48 → (tn X k)[o]? = some (.int .i64 (if o < 3 * k then X (3 * src (o / 3) + o % 3) else 0))
  | 0, o, ho => by
    show ((List.replicate 48 (Value.int .i64 0)).toArray)[o]? = _
    rw [List.getElem?_toArray, List.getElem?_replicate, if_pos ho, if_neg (by omega)]
  | k + 1, o, ho => by
    have ih := tn_get X k o ho
    have hs := tn_size X k
    simp only [tn, Array.getElem?_setIfInBounds, Array.size_setIfInBounds, hs]
    by_cases h2 : 3 * k + 2 = o
    · rw [if_pos h2, if_pos (by omega), if_pos (by omega), show o / 3 = k by omega, show o % 3 = 2 by omega]
    · rw [if_neg h2]
      by_cases h1 : 3 * k + 1 = o
      · rw [if_pos h1, if_pos (by omega), if_pos (by omega), show o / 3 = k by omega, show o % 3 = 1 by omega]
      · rw [if_neg h1]
        by_cases h0 : 3 * k = o
        · rw [if_pos h0, if_pos (by omega), if_pos (by omega), show o / 3 = k by omega, show o % 3 = 0 by omega, Nat.add_zero]
        · rw [if_neg h0, ih]
          by_cases h : o < 3 * k
          · rw [if_pos h, if_pos (by omega)]
          · rw [if_neg h, if_neg (by omega)]
theorem tn_is (X : Nat → Int) : Is48 (tn X 16) (fun o => X (3 * src (o / 3) + o % 3)) :=
  ⟨tn_size X 16, fun o ho => by rw [tn_get X 16 o ho, if_pos (by omega)]⟩
theorem eq4_refl (a b c d : Int) (w : World) : Sem.run Try.prog (Op.equalIn 10000 53 (.agg (C4i a b c d)) (.agg (C4i a b c d))) w = .ok true w := by
  rw [show (10000 : Nat) = 9999 + 1 from rfl, Op.equalIn]
  simp only [Sem.run_bind, run_underlying Try.underlying53, Result.andThen_ok]
  simp only [Std.Legacy.Range.forIn_eq_forIn_range', Std.Legacy.Range.size, Nat.sub_zero, Nat.add_sub_cancel, Nat.div_one, List.range'_succ, List.range'_zero, List.forIn_cons, List.forIn_nil]
  go_simp
def RBIn (j g B T : Nat) (X : Nat → Int) (cs c : Array Value) (w : World) (k : Nat) (i : Value) (wr : World) : Prop :=
  ((k = 4 ∧ i = .int .i64 0 ∧ 0 ≤ g ∧ (∀ o, wr.cell? ⟨T + 1, o, none⟩ = (tn X (4 * j))[o]?)) ∨ (k = 3 ∧ i = .int .i64 1 ∧ 1 ≤ g ∧ (∀ o, wr.cell? ⟨T + 1, o, none⟩ = (tn X (4 * j + 1))[o]?)) ∨ (k = 2 ∧ i = .int .i64 2 ∧ 2 ≤ g ∧ (∀ o, wr.cell? ⟨T + 1, o, none⟩ = (tn X (4 * j + 2))[o]?)) ∨ (k = 1 ∧ i = .int .i64 3 ∧ 3 ≤ g ∧ (∀ o, wr.cell? ⟨T + 1, o, none⟩ = (tn X (4 * j + 3))[o]?)) ∨ (k = 0 ∧ i = .int .i64 4 ∧ 4 ≤ g ∧ (∀ o, wr.cell? ⟨T + 1, o, none⟩ = (tn X (4 * j + 4))[o]?))) ∧
  (∀ o, wr.cell? ⟨B, o, none⟩ = cs[o]?) ∧ (∀ o, wr.cell? ⟨T, o, none⟩ = c[o]?) ∧ (∀ o, wr.frozen? ⟨T + 1, o, none⟩ = false) ∧ Below B w wr
def RBOut (g B T : Nat) (X : Nat → Int) (cs c : Array Value) (w : World) (k : Nat) (i : Value) (wr : World) : Prop :=
  ((k = 4 ∧ i = .int .i64 0 ∧ 0 ≤ g ∧ (∀ o, wr.cell? ⟨T + 1, o, none⟩ = (tn X 0)[o]?)) ∨ (k = 3 ∧ i = .int .i64 1 ∧ 1 ≤ g ∧ (∀ o, wr.cell? ⟨T + 1, o, none⟩ = (tn X 4)[o]?)) ∨ (k = 2 ∧ i = .int .i64 2 ∧ 2 ≤ g ∧ (∀ o, wr.cell? ⟨T + 1, o, none⟩ = (tn X 8)[o]?)) ∨ (k = 1 ∧ i = .int .i64 3 ∧ 3 ≤ g ∧ (∀ o, wr.cell? ⟨T + 1, o, none⟩ = (tn X 12)[o]?)) ∨ (k = 0 ∧ i = .int .i64 4 ∧ 4 ≤ g ∧ (∀ o, wr.cell? ⟨T + 1, o, none⟩ = (tn X 16)[o]?))) ∧
  (∀ o, wr.cell? ⟨B, o, none⟩ = cs[o]?) ∧ (∀ o, wr.cell? ⟨T, o, none⟩ = c[o]?) ∧ (∀ o, wr.frozen? ⟨T + 1, o, none⟩ = false) ∧ Below B w wr
set_option maxHeartbeats 8000000 in
theorem back_flat (cs : Array Value) (X : Nat → Int) (hX : Is48 cs X) (unit : Int) (w : World) :
    Calls Try.prog 13 #[.agg cs, .int .i64 unit] w fun e w' => e = .returned (.bool true) ∧ Below w.heap.size w w' := by
  obtain ⟨e0, h0⟩ : ∃ e, edgP (X 0) (X 1) (X 2) (X 3) (X 4) (X 5) (X 6) (X 7) (X 8) (X 9) (X 10) (X 11) unit = e := ⟨_, rfl⟩
  obtain ⟨e1, h1⟩ : ∃ e, edgP (X 9) (X 10) (X 11) (X 21) (X 22) (X 23) (X 33) (X 34) (X 35) (X 45) (X 46) (X 47) unit = e := ⟨_, rfl⟩
  obtain ⟨e2, h2⟩ : ∃ e, edgP (X 45) (X 46) (X 47) (X 42) (X 43) (X 44) (X 39) (X 40) (X 41) (X 36) (X 37) (X 38) unit = e := ⟨_, rfl⟩
  obtain ⟨e3, h3⟩ : ∃ e, edgP (X 36) (X 37) (X 38) (X 24) (X 25) (X 26) (X 12) (X 13) (X 14) (X 0) (X 1) (X 2) unit = e := ⟨_, rfl⟩
  have S1 := Lib.hid (sides_is cs X hX unit e0 e1 e2 e3 h0 h1 h2 h3)
  have S2 := Lib.hid (sides_is (tn X 16) _ (tn_is X) unit e1 e2 e3 e0 h1 h2 h3 h0)
  have E1 := edge_any (X 0) (X 1) (X 2) (X 3) (X 4) (X 5) (X 6) (X 7) (X 8) (X 9) (X 10) (X 11) unit
  have E2 := edge_any (X 9) (X 10) (X 11) (X 6) (X 7) (X 8) (X 3) (X 4) (X 5) (X 0) (X 1) (X 2) unit
  have E3 : Hid (∀ w, Calls Try.prog 15 #[.agg (C12 (X 0) (X 1) (X 2) (X 3) (X 4) (X 5) (X 6) (X 7) (X 8) (X 9) (X 10) (X 11)), .int .i64 unit] w fun e w' => e = .returned (.int .i64 e0) ∧ Below w.heap.size w w') := by
    intro w; have := E1 w; rw [show edgeF (allIn (X 0) (X 1) (X 2) (X 3) (X 4) (X 5) (X 6) (X 7) (X 8) (X 9) (X 10) (X 11)) (lenF (X 0) (X 1) (X 2) (X 3) (X 4) (X 5) (X 6) (X 7) (X 8) (X 9) (X 10) (X 11)) unit = e0 from h0] at this; exact this
  have E4 : Hid (∀ w, Calls Try.prog 15 #[.agg (C12 (X 9) (X 10) (X 11) (X 6) (X 7) (X 8) (X 3) (X 4) (X 5) (X 0) (X 1) (X 2)), .int .i64 unit] w fun e w' => e = .returned (.int .i64 e0) ∧ Below w.heap.size w w') := by
    intro w; have := E2 w; rw [show edgeF (allIn (X 9) (X 10) (X 11) (X 6) (X 7) (X 8) (X 3) (X 4) (X 5) (X 0) (X 1) (X 2)) (lenF (X 9) (X 10) (X 11) (X 6) (X 7) (X 8) (X 3) (X 4) (X 5) (X 0) (X 1) (X 2)) unit = e0 from (edgP_back (X 0) (X 1) (X 2) (X 3) (X 4) (X 5) (X 6) (X 7) (X 8) (X 9) (X 10) (X 11) unit).trans h0] at this; exact this
  have EQ := eq4_refl e1 e2 e3 e0
  obtain ⟨hs48, hx⟩ := hX
  have HX := Lib.hid hx
  have hs0 : 0 < cs.size := by omega
  have u0 := hx 0 (by omega)
  have u1 := hx 1 (by omega)
  have u2 := hx 2 (by omega)
  have u3 := hx 3 (by omega)
  have u4 := hx 4 (by omega)
  have u5 := hx 5 (by omega)
  have u6 := hx 6 (by omega)
  have u7 := hx 7 (by omega)
  have u8 := hx 8 (by omega)
  have u9 := hx 9 (by omega)
  have u10 := hx 10 (by omega)
  have u11 := hx 11 (by omega)
  clear hx E1 E2 h0 h1 h2 h3
  go_enter Try.func13, Try.ntmps13
  go_wp2_with (first | (refine store_new rfl _ _ rfl (w1.heap.size + 1) (sz1 rfl) _ _ rfl rfl rfl rfl (by kernel_rfl) ?_) | (go_at_call 14; ((with_reducible refine (alive12_any _).mono ?_); rintro e w1 ⟨rfl, hb1⟩; have A1 := Lib.hid (blk_later hs0 hb1 (by (repeat (first | (with_reducible assumption) | (focus ((with_reducible refine new_at ?_ _ _); (repeat (first | (with_reducible rfl) | (with_reducible refine sz1 ?_))); done)) | (with_reducible refine blk_alloc hs0 _ ?_) | (with_reducible refine blk_drew ?_)))) : ∀ o, w1.cell? ⟨w.heap.size, o, none⟩ = cs[o]?); have s1 : w.heap.size < w1.heap.size := blk_lt hs0 A1.out; have a0 := (A1.out 0).trans u0; have a1 := (A1.out 1).trans u1; have a2 := (A1.out 2).trans u2; have a3 := (A1.out 3).trans u3; have a4 := (A1.out 4).trans u4; have a5 := (A1.out 5).trans u5; have a6 := (A1.out 6).trans u6; have a7 := (A1.out 7).trans u7; have a8 := (A1.out 8).trans u8; have a9 := (A1.out 9).trans u9; have a10 := (A1.out 10).trans u10; have a11 := (A1.out 11).trans u11; clear u0 u1 u2 u3 u4 u5 u6 u7 u8 u9 u10 u11)))
  go_loopg [7] 4 (fun k i wr => RBOut 4 w.heap.size w1.heap.size X cs (C12 (X 0) (X 1) (X 2) (X 3) (X 4) (X 5) (X 6) (X 7) (X 8) (X 9) (X 10) (X 11)) w k i wr)
  case atStart => exact ⟨.inl ⟨rfl, rfl, by omega, fun o => (new_at (sz1 rfl) _ _ o).trans (by rfl)⟩, blk_alloc hs0 _ (blk_alloc hs0 _ A1.out), by (repeat (first | (with_reducible assumption) | (focus ((with_reducible refine new_at ?_ _ _); (repeat (first | (with_reducible rfl) | (with_reducible refine sz1 ?_))); done)) | (with_reducible refine blk_alloc (by simp) _ ?_) | (with_reducible refine blk_drew ?_))), by (repeat (first | (with_reducible assumption) | (focus ((with_reducible refine fro_new ?_ _ _); (repeat (first | (with_reducible rfl) | (with_reducible refine sz1 ?_))); done)) | ((with_reducible refine fro_more ?_ _ ?_); (repeat (first | (with_reducible assumption) | (focus ((with_reducible refine lt_new ?_); (repeat (first | (with_reducible rfl) | (with_reducible refine sz1 ?_))); done)) | (with_reducible refine lt_here ?_)))))), by (repeat' (first | (with_reducible exact Below.refl _ _) | (with_reducible refine bstep (by with_reducible assumption) ?_) | (with_reducible refine Below.alloc ?_ ?_ _) | (with_reducible refine Below.drew ?_) | (with_reducible refine below_drewN ?_ _) | (with_reducible refine Below.setCell ?_ ?_ _) | go_size))⟩
  case round =>
    obtain ⟨hk, hp, hc, hf, hB⟩ := hrel
    have HB := Lib.hid hB
    have P0 := Lib.hid hp
    have l0 : w.heap.size < wr.heap.size := blk_lt hs0 hp
    clear hB hp A1
    rcases hk with ⟨rfl, rfl, hg, hq⟩ | ⟨rfl, rfl, hg, hq⟩ | ⟨rfl, rfl, hg, hq⟩ | ⟨rfl, rfl, hg, hq⟩ | ⟨rfl, rfl, hg, hq⟩
    · have Q0 := Lib.hid hq
      clear hq
      go_wp2_with fail
      go_loopg [8] 4 (fun k i wr => RBIn 0 4 w.heap.size w1.heap.size X cs (C12 (X 0) (X 1) (X 2) (X 3) (X 4) (X 5) (X 6) (X 7) (X 8) (X 9) (X 10) (X 11)) w k i wr)
      case atStart => exact ⟨.inl ⟨rfl, rfl, by omega, Q0.out⟩, P0.out, hc, hf, HB.out⟩
      case round =>
        obtain ⟨hk, hp, hc', hf', hB⟩ := hrel
        have HBX := Lib.hid hB
        have P1 := Lib.hid hp
        have l1 : w.heap.size < wr.heap.size := blk_lt hs0 hp
        have n1 : w1.heap.size + 1 ≠ w.heap.size := by omega
        have n2 : w1.heap.size + 1 ≠ w1.heap.size := by omega
        clear hB hp P0 Q0 hc hf
        rcases hk with ⟨rfl, rfl, hg', hq⟩ | ⟨rfl, rfl, hg', hq⟩ | ⟨rfl, rfl, hg', hq⟩ | ⟨rfl, rfl, hg', hq⟩ | ⟨rfl, rfl, hg', hq⟩
        · have Q1 := Lib.hid hq
          have c0 := (hq 0).trans (tn_get X 0 0 (by omega))
          have c1 := (hq 1).trans (tn_get X 0 1 (by omega))
          have c2 := (hq 2).trans (tn_get X 0 2 (by omega))
          have y0 := (P1.out 9).trans (HX.out 9 (by omega))
          have y1 := (P1.out 10).trans (HX.out 10 (by omega))
          have y2 := (P1.out 11).trans (HX.out 11 (by omega))
          have l2 : w1.heap.size + 1 < wr.heap.size := World.block_lt_of_cell? _ _ c0
          clear hq
          go_wp2_with fail
          go_roundg 3
          case measure => omega
          case rel =>
            have HB' := HBX.out
            exact ⟨.inr (.inl ⟨rfl, by simp, by omega, st3_blk Q1.out (by rw [tn_size]; omega) (by rw [tn_size]; omega) (by rw [tn_size]; omega) (tn_step X 0 0 1 2 9 10 11 rfl rfl rfl rfl rfl rfl)⟩), st3_far n1 P1.out, st3_far n2 hc', fun o => by simp [hf'], by (repeat' (first | (with_reducible exact Below.refl _ _) | (with_reducible refine bstep (by with_reducible assumption) ?_) | (with_reducible refine Below.alloc ?_ ?_ _) | (with_reducible refine Below.drew ?_) | (with_reducible refine below_drewN ?_ _) | (with_reducible refine Below.setCell ?_ ?_ _) | go_size))⟩
        · have Q1 := Lib.hid hq
          have c0 := (hq 3).trans (tn_get X 1 3 (by omega))
          have c1 := (hq 4).trans (tn_get X 1 4 (by omega))
          have c2 := (hq 5).trans (tn_get X 1 5 (by omega))
          have y0 := (P1.out 21).trans (HX.out 21 (by omega))
          have y1 := (P1.out 22).trans (HX.out 22 (by omega))
          have y2 := (P1.out 23).trans (HX.out 23 (by omega))
          have l2 : w1.heap.size + 1 < wr.heap.size := World.block_lt_of_cell? _ _ c0
          clear hq
          go_wp2_with fail
          go_roundg 2
          case measure => omega
          case rel =>
            have HB' := HBX.out
            exact ⟨.inr (.inr (.inl ⟨rfl, by simp, by omega, st3_blk Q1.out (by rw [tn_size]; omega) (by rw [tn_size]; omega) (by rw [tn_size]; omega) (tn_step X 1 3 4 5 21 22 23 rfl rfl rfl rfl rfl rfl)⟩)), st3_far n1 P1.out, st3_far n2 hc', fun o => by simp [hf'], by (repeat' (first | (with_reducible exact Below.refl _ _) | (with_reducible refine bstep (by with_reducible assumption) ?_) | (with_reducible refine Below.alloc ?_ ?_ _) | (with_reducible refine Below.drew ?_) | (with_reducible refine below_drewN ?_ _) | (with_reducible refine Below.setCell ?_ ?_ _) | go_size))⟩
        · have Q1 := Lib.hid hq
          have c0 := (hq 6).trans (tn_get X 2 6 (by omega))
          have c1 := (hq 7).trans (tn_get X 2 7 (by omega))
          have c2 := (hq 8).trans (tn_get X 2 8 (by omega))
          have y0 := (P1.out 33).trans (HX.out 33 (by omega))
          have y1 := (P1.out 34).trans (HX.out 34 (by omega))
          have y2 := (P1.out 35).trans (HX.out 35 (by omega))
          have l2 : w1.heap.size + 1 < wr.heap.size := World.block_lt_of_cell? _ _ c0
          clear hq
          go_wp2_with fail
          go_roundg 1
          case measure => omega
          case rel =>
            have HB' := HBX.out
            exact ⟨.inr (.inr (.inr (.inl ⟨rfl, by simp, by omega, st3_blk Q1.out (by rw [tn_size]; omega) (by rw [tn_size]; omega) (by rw [tn_size]; omega) (tn_step X 2 6 7 8 33 34 35 rfl rfl rfl rfl rfl rfl)⟩))), st3_far n1 P1.out, st3_far n2 hc', fun o => by simp [hf'], by (repeat' (first | (with_reducible exact Below.refl _ _) | (with_reducible refine bstep (by with_reducible assumption) ?_) | (with_reducible refine Below.alloc ?_ ?_ _) | (with_reducible refine Below.drew ?_) | (with_reducible refine below_drewN ?_ _) | (with_reducible refine Below.setCell ?_ ?_ _) | go_size))⟩
        · have Q1 := Lib.hid hq
          have c0 := (hq 9).trans (tn_get X 3 9 (by omega))
          have c1 := (hq 10).trans (tn_get X 3 10 (by omega))
          have c2 := (hq 11).trans (tn_get X 3 11 (by omega))
          have y0 := (P1.out 45).trans (HX.out 45 (by omega))
          have y1 := (P1.out 46).trans (HX.out 46 (by omega))
          have y2 := (P1.out 47).trans (HX.out 47 (by omega))
          have l2 : w1.heap.size + 1 < wr.heap.size := World.block_lt_of_cell? _ _ c0
          clear hq
          go_wp2_with fail
          go_roundg 0
          case measure => omega
          case rel =>
            have HB' := HBX.out
            exact ⟨.inr (.inr (.inr (.inr (⟨rfl, by simp, by omega, st3_blk Q1.out (by rw [tn_size]; omega) (by rw [tn_size]; omega) (by rw [tn_size]; omega) (tn_step X 3 9 10 11 45 46 47 rfl rfl rfl rfl rfl rfl)⟩)))), st3_far n1 P1.out, st3_far n2 hc', fun o => by simp [hf'], by (repeat' (first | (with_reducible exact Below.refl _ _) | (with_reducible refine bstep (by with_reducible assumption) ?_) | (with_reducible refine Below.alloc ?_ ?_ _) | (with_reducible refine Below.drew ?_) | (with_reducible refine below_drewN ?_ _) | (with_reducible refine Below.setCell ?_ ?_ _) | go_size))⟩
        · have Q1 := Lib.hid hq
          clear hq
          go_wp2_with fail
          go_roundg 3
          case measure => omega
          case rel => exact ⟨.inr (.inl ⟨rfl, by simp, by omega, Q1.out⟩), P1.out, hc', hf', HBX.out⟩
    · have Q0 := Lib.hid hq
      clear hq
      go_wp2_with fail
      go_loopg [8] 4 (fun k i wr => RBIn 1 4 w.heap.size w1.heap.size X cs (C12 (X 0) (X 1) (X 2) (X 3) (X 4) (X 5) (X 6) (X 7) (X 8) (X 9) (X 10) (X 11)) w k i wr)
      case atStart => exact ⟨.inl ⟨rfl, rfl, by omega, Q0.out⟩, P0.out, hc, hf, HB.out⟩
      case round =>
        obtain ⟨hk, hp, hc', hf', hB⟩ := hrel
        have HBX := Lib.hid hB
        have P1 := Lib.hid hp
        have l1 : w.heap.size < wr.heap.size := blk_lt hs0 hp
        have n1 : w1.heap.size + 1 ≠ w.heap.size := by omega
        have n2 : w1.heap.size + 1 ≠ w1.heap.size := by omega
        clear hB hp P0 Q0 hc hf
        rcases hk with ⟨rfl, rfl, hg', hq⟩ | ⟨rfl, rfl, hg', hq⟩ | ⟨rfl, rfl, hg', hq⟩ | ⟨rfl, rfl, hg', hq⟩ | ⟨rfl, rfl, hg', hq⟩
        · have Q1 := Lib.hid hq
          have c0 := (hq 12).trans (tn_get X 4 12 (by omega))
          have c1 := (hq 13).trans (tn_get X 4 13 (by omega))
          have c2 := (hq 14).trans (tn_get X 4 14 (by omega))
          have y0 := (P1.out 6).trans (HX.out 6 (by omega))
          have y1 := (P1.out 7).trans (HX.out 7 (by omega))
          have y2 := (P1.out 8).trans (HX.out 8 (by omega))
          have l2 : w1.heap.size + 1 < wr.heap.size := World.block_lt_of_cell? _ _ c0
          clear hq
          go_wp2_with fail
          go_roundg 3
          case measure => omega
          case rel =>
            have HB' := HBX.out
            exact ⟨.inr (.inl ⟨rfl, by simp, by omega, st3_blk Q1.out (by rw [tn_size]; omega) (by rw [tn_size]; omega) (by rw [tn_size]; omega) (tn_step X 4 12 13 14 6 7 8 rfl rfl rfl rfl rfl rfl)⟩), st3_far n1 P1.out, st3_far n2 hc', fun o => by simp [hf'], by (repeat' (first | (with_reducible exact Below.refl _ _) | (with_reducible refine bstep (by with_reducible assumption) ?_) | (with_reducible refine Below.alloc ?_ ?_ _) | (with_reducible refine Below.drew ?_) | (with_reducible refine below_drewN ?_ _) | (with_reducible refine Below.setCell ?_ ?_ _) | go_size))⟩
        · have Q1 := Lib.hid hq
          have c0 := (hq 15).trans (tn_get X 5 15 (by omega))
          have c1 := (hq 16).trans (tn_get X 5 16 (by omega))
          have c2 := (hq 17).trans (tn_get X 5 17 (by omega))
          have y0 := (P1.out 18).trans (HX.out 18 (by omega))
          have y1 := (P1.out 19).trans (HX.out 19 (by omega))
          have y2 := (P1.out 20).trans (HX.out 20 (by omega))
          have l2 : w1.heap.size + 1 < wr.heap.size := World.block_lt_of_cell? _ _ c0
          clear hq
          go_wp2_with fail
          go_roundg 2
          case measure => omega
          case rel =>
            have HB' := HBX.out
            exact ⟨.inr (.inr (.inl ⟨rfl, by simp, by omega, st3_blk Q1.out (by rw [tn_size]; omega) (by rw [tn_size]; omega) (by rw [tn_size]; omega) (tn_step X 5 15 16 17 18 19 20 rfl rfl rfl rfl rfl rfl)⟩)), st3_far n1 P1.out, st3_far n2 hc', fun o => by simp [hf'], by (repeat' (first | (with_reducible exact Below.refl _ _) | (with_reducible refine bstep (by with_reducible assumption) ?_) | (with_reducible refine Below.alloc ?_ ?_ _) | (with_reducible refine Below.drew ?_) | (with_reducible refine below_drewN ?_ _) | (with_reducible refine Below.setCell ?_ ?_ _) | go_size))⟩
        · have Q1 := Lib.hid hq
          have c0 := (hq 18).trans (tn_get X 6 18 (by omega))
          have c1 := (hq 19).trans (tn_get X 6 19 (by omega))
          have c2 := (hq 20).trans (tn_get X 6 20 (by omega))
          have y0 := (P1.out 30).trans (HX.out 30 (by omega))
          have y1 := (P1.out 31).trans (HX.out 31 (by omega))
          have y2 := (P1.out 32).trans (HX.out 32 (by omega))
          have l2 : w1.heap.size + 1 < wr.heap.size := World.block_lt_of_cell? _ _ c0
          clear hq
          go_wp2_with fail
          go_roundg 1
          case measure => omega
          case rel =>
            have HB' := HBX.out
            exact ⟨.inr (.inr (.inr (.inl ⟨rfl, by simp, by omega, st3_blk Q1.out (by rw [tn_size]; omega) (by rw [tn_size]; omega) (by rw [tn_size]; omega) (tn_step X 6 18 19 20 30 31 32 rfl rfl rfl rfl rfl rfl)⟩))), st3_far n1 P1.out, st3_far n2 hc', fun o => by simp [hf'], by (repeat' (first | (with_reducible exact Below.refl _ _) | (with_reducible refine bstep (by with_reducible assumption) ?_) | (with_reducible refine Below.alloc ?_ ?_ _) | (with_reducible refine Below.drew ?_) | (with_reducible refine below_drewN ?_ _) | (with_reducible refine Below.setCell ?_ ?_ _) | go_size))⟩
        · have Q1 := Lib.hid hq
          have c0 := (hq 21).trans (tn_get X 7 21 (by omega))
          have c1 := (hq 22).trans (tn_get X 7 22 (by omega))
          have c2 := (hq 23).trans (tn_get X 7 23 (by omega))
          have y0 := (P1.out 42).trans (HX.out 42 (by omega))
          have y1 := (P1.out 43).trans (HX.out 43 (by omega))
          have y2 := (P1.out 44).trans (HX.out 44 (by omega))
          have l2 : w1.heap.size + 1 < wr.heap.size := World.block_lt_of_cell? _ _ c0
          clear hq
          go_wp2_with fail
          go_roundg 0
          case measure => omega
          case rel =>
            have HB' := HBX.out
            exact ⟨.inr (.inr (.inr (.inr (⟨rfl, by simp, by omega, st3_blk Q1.out (by rw [tn_size]; omega) (by rw [tn_size]; omega) (by rw [tn_size]; omega) (tn_step X 7 21 22 23 42 43 44 rfl rfl rfl rfl rfl rfl)⟩)))), st3_far n1 P1.out, st3_far n2 hc', fun o => by simp [hf'], by (repeat' (first | (with_reducible exact Below.refl _ _) | (with_reducible refine bstep (by with_reducible assumption) ?_) | (with_reducible refine Below.alloc ?_ ?_ _) | (with_reducible refine Below.drew ?_) | (with_reducible refine below_drewN ?_ _) | (with_reducible refine Below.setCell ?_ ?_ _) | go_size))⟩
        · have Q1 := Lib.hid hq
          clear hq
          go_wp2_with fail
          go_roundg 2
          case measure => omega
          case rel => exact ⟨.inr (.inr (.inl ⟨rfl, by simp, by omega, Q1.out⟩)), P1.out, hc', hf', HBX.out⟩
    · have Q0 := Lib.hid hq
      clear hq
      go_wp2_with fail
      go_loopg [8] 4 (fun k i wr => RBIn 2 4 w.heap.size w1.heap.size X cs (C12 (X 0) (X 1) (X 2) (X 3) (X 4) (X 5) (X 6) (X 7) (X 8) (X 9) (X 10) (X 11)) w k i wr)
      case atStart => exact ⟨.inl ⟨rfl, rfl, by omega, Q0.out⟩, P0.out, hc, hf, HB.out⟩
      case round =>
        obtain ⟨hk, hp, hc', hf', hB⟩ := hrel
        have HBX := Lib.hid hB
        have P1 := Lib.hid hp
        have l1 : w.heap.size < wr.heap.size := blk_lt hs0 hp
        have n1 : w1.heap.size + 1 ≠ w.heap.size := by omega
        have n2 : w1.heap.size + 1 ≠ w1.heap.size := by omega
        clear hB hp P0 Q0 hc hf
        rcases hk with ⟨rfl, rfl, hg', hq⟩ | ⟨rfl, rfl, hg', hq⟩ | ⟨rfl, rfl, hg', hq⟩ | ⟨rfl, rfl, hg', hq⟩ | ⟨rfl, rfl, hg', hq⟩
        · have Q1 := Lib.hid hq
          have c0 := (hq 24).trans (tn_get X 8 24 (by omega))
          have c1 := (hq 25).trans (tn_get X 8 25 (by omega))
          have c2 := (hq 26).trans (tn_get X 8 26 (by omega))
          have y0 := (P1.out 3).trans (HX.out 3 (by omega))
          have y1 := (P1.out 4).trans (HX.out 4 (by omega))
          have y2 := (P1.out 5).trans (HX.out 5 (by omega))
          have l2 : w1.heap.size + 1 < wr.heap.size := World.block_lt_of_cell? _ _ c0
          clear hq
          go_wp2_with fail
          go_roundg 3
          case measure => omega
          case rel =>
            have HB' := HBX.out
            exact ⟨.inr (.inl ⟨rfl, by simp, by omega, st3_blk Q1.out (by rw [tn_size]; omega) (by rw [tn_size]; omega) (by rw [tn_size]; omega) (tn_step X 8 24 25 26 3 4 5 rfl rfl rfl rfl rfl rfl)⟩), st3_far n1 P1.out, st3_far n2 hc', fun o => by simp [hf'], by (repeat' (first | (with_reducible exact Below.refl _ _) | (with_reducible refine bstep (by with_reducible assumption) ?_) | (with_reducible refine Below.alloc ?_ ?_ _) | (with_reducible refine Below.drew ?_) | (with_reducible refine below_drewN ?_ _) | (with_reducible refine Below.setCell ?_ ?_ _) | go_size))⟩
        · have Q1 := Lib.hid hq
          have c0 := (hq 27).trans (tn_get X 9 27 (by omega))
          have c1 := (hq 28).trans (tn_get X 9 28 (by omega))
          have c2 := (hq 29).trans (tn_get X 9 29 (by omega))
          have y0 := (P1.out 15).trans (HX.out 15 (by omega))
          have y1 := (P1.out 16).trans (HX.out 16 (by omega))
          have y2 := (P1.out 17).trans (HX.out 17 (by omega))
          have l2 : w1.heap.size + 1 < wr.heap.size := World.block_lt_of_cell? _ _ c0
          clear hq
          go_wp2_with fail
          go_roundg 2
          case measure => omega
          case rel =>
            have HB' := HBX.out
            exact ⟨.inr (.inr (.inl ⟨rfl, by simp, by omega, st3_blk Q1.out (by rw [tn_size]; omega) (by rw [tn_size]; omega) (by rw [tn_size]; omega) (tn_step X 9 27 28 29 15 16 17 rfl rfl rfl rfl rfl rfl)⟩)), st3_far n1 P1.out, st3_far n2 hc', fun o => by simp [hf'], by (repeat' (first | (with_reducible exact Below.refl _ _) | (with_reducible refine bstep (by with_reducible assumption) ?_) | (with_reducible refine Below.alloc ?_ ?_ _) | (with_reducible refine Below.drew ?_) | (with_reducible refine below_drewN ?_ _) | (with_reducible refine Below.setCell ?_ ?_ _) | go_size))⟩
        · have Q1 := Lib.hid hq
          have c0 := (hq 30).trans (tn_get X 10 30 (by omega))
          have c1 := (hq 31).trans (tn_get X 10 31 (by omega))
          have c2 := (hq 32).trans (tn_get X 10 32 (by omega))
          have y0 := (P1.out 27).trans (HX.out 27 (by omega))
          have y1 := (P1.out 28).trans (HX.out 28 (by omega))
          have y2 := (P1.out 29).trans (HX.out 29 (by omega))
          have l2 : w1.heap.size + 1 < wr.heap.size := World.block_lt_of_cell? _ _ c0
          clear hq
          go_wp2_with fail
          go_roundg 1
          case measure => omega
          case rel =>
            have HB' := HBX.out
            exact ⟨.inr (.inr (.inr (.inl ⟨rfl, by simp, by omega, st3_blk Q1.out (by rw [tn_size]; omega) (by rw [tn_size]; omega) (by rw [tn_size]; omega) (tn_step X 10 30 31 32 27 28 29 rfl rfl rfl rfl rfl rfl)⟩))), st3_far n1 P1.out, st3_far n2 hc', fun o => by simp [hf'], by (repeat' (first | (with_reducible exact Below.refl _ _) | (with_reducible refine bstep (by with_reducible assumption) ?_) | (with_reducible refine Below.alloc ?_ ?_ _) | (with_reducible refine Below.drew ?_) | (with_reducible refine below_drewN ?_ _) | (with_reducible refine Below.setCell ?_ ?_ _) | go_size))⟩
        · have Q1 := Lib.hid hq
          have c0 := (hq 33).trans (tn_get X 11 33 (by omega))
          have c1 := (hq 34).trans (tn_get X 11 34 (by omega))
          have c2 := (hq 35).trans (tn_get X 11 35 (by omega))
          have y0 := (P1.out 39).trans (HX.out 39 (by omega))
          have y1 := (P1.out 40).trans (HX.out 40 (by omega))
          have y2 := (P1.out 41).trans (HX.out 41 (by omega))
          have l2 : w1.heap.size + 1 < wr.heap.size := World.block_lt_of_cell? _ _ c0
          clear hq
          go_wp2_with fail
          go_roundg 0
          case measure => omega
          case rel =>
            have HB' := HBX.out
            exact ⟨.inr (.inr (.inr (.inr (⟨rfl, by simp, by omega, st3_blk Q1.out (by rw [tn_size]; omega) (by rw [tn_size]; omega) (by rw [tn_size]; omega) (tn_step X 11 33 34 35 39 40 41 rfl rfl rfl rfl rfl rfl)⟩)))), st3_far n1 P1.out, st3_far n2 hc', fun o => by simp [hf'], by (repeat' (first | (with_reducible exact Below.refl _ _) | (with_reducible refine bstep (by with_reducible assumption) ?_) | (with_reducible refine Below.alloc ?_ ?_ _) | (with_reducible refine Below.drew ?_) | (with_reducible refine below_drewN ?_ _) | (with_reducible refine Below.setCell ?_ ?_ _) | go_size))⟩
        · have Q1 := Lib.hid hq
          clear hq
          go_wp2_with fail
          go_roundg 1
          case measure => omega
          case rel => exact ⟨.inr (.inr (.inr (.inl ⟨rfl, by simp, by omega, Q1.out⟩))), P1.out, hc', hf', HBX.out⟩
    · have Q0 := Lib.hid hq
      clear hq
      go_wp2_with fail
      go_loopg [8] 4 (fun k i wr => RBIn 3 4 w.heap.size w1.heap.size X cs (C12 (X 0) (X 1) (X 2) (X 3) (X 4) (X 5) (X 6) (X 7) (X 8) (X 9) (X 10) (X 11)) w k i wr)
      case atStart => exact ⟨.inl ⟨rfl, rfl, by omega, Q0.out⟩, P0.out, hc, hf, HB.out⟩
      case round =>
        obtain ⟨hk, hp, hc', hf', hB⟩ := hrel
        have HBX := Lib.hid hB
        have P1 := Lib.hid hp
        have l1 : w.heap.size < wr.heap.size := blk_lt hs0 hp
        have n1 : w1.heap.size + 1 ≠ w.heap.size := by omega
        have n2 : w1.heap.size + 1 ≠ w1.heap.size := by omega
        clear hB hp P0 Q0 hc hf
        rcases hk with ⟨rfl, rfl, hg', hq⟩ | ⟨rfl, rfl, hg', hq⟩ | ⟨rfl, rfl, hg', hq⟩ | ⟨rfl, rfl, hg', hq⟩ | ⟨rfl, rfl, hg', hq⟩
        · have Q1 := Lib.hid hq
          have c0 := (hq 36).trans (tn_get X 12 36 (by omega))
          have c1 := (hq 37).trans (tn_get X 12 37 (by omega))
          have c2 := (hq 38).trans (tn_get X 12 38 (by omega))
          have y0 := (P1.out 0).trans (HX.out 0 (by omega))
          have y1 := (P1.out 1).trans (HX.out 1 (by omega))
          have y2 := (P1.out 2).trans (HX.out 2 (by omega))
          have l2 : w1.heap.size + 1 < wr.heap.size := World.block_lt_of_cell? _ _ c0
          clear hq
          go_wp2_with fail
          go_roundg 3
          case measure => omega
          case rel =>
            have HB' := HBX.out
            exact ⟨.inr (.inl ⟨rfl, by simp, by omega, st3_blk Q1.out (by rw [tn_size]; omega) (by rw [tn_size]; omega) (by rw [tn_size]; omega) (tn_step X 12 36 37 38 0 1 2 rfl rfl rfl rfl rfl rfl)⟩), st3_far n1 P1.out, st3_far n2 hc', fun o => by simp [hf'], by (repeat' (first | (with_reducible exact Below.refl _ _) | (with_reducible refine bstep (by with_reducible assumption) ?_) | (with_reducible refine Below.alloc ?_ ?_ _) | (with_reducible refine Below.drew ?_) | (with_reducible refine below_drewN ?_ _) | (with_reducible refine Below.setCell ?_ ?_ _) | go_size))⟩
        · have Q1 := Lib.hid hq
          have c0 := (hq 39).trans (tn_get X 13 39 (by omega))
          have c1 := (hq 40).trans (tn_get X 13 40 (by omega))
          have c2 := (hq 41).trans (tn_get X 13 41 (by omega))
          have y0 := (P1.out 12).trans (HX.out 12 (by omega))
          have y1 := (P1.out 13).trans (HX.out 13 (by omega))
          have y2 := (P1.out 14).trans (HX.out 14 (by omega))
          have l2 : w1.heap.size + 1 < wr.heap.size := World.block_lt_of_cell? _ _ c0
          clear hq
          go_wp2_with fail
          go_roundg 2
          case measure => omega
          case rel =>
            have HB' := HBX.out
            exact ⟨.inr (.inr (.inl ⟨rfl, by simp, by omega, st3_blk Q1.out (by rw [tn_size]; omega) (by rw [tn_size]; omega) (by rw [tn_size]; omega) (tn_step X 13 39 40 41 12 13 14 rfl rfl rfl rfl rfl rfl)⟩)), st3_far n1 P1.out, st3_far n2 hc', fun o => by simp [hf'], by (repeat' (first | (with_reducible exact Below.refl _ _) | (with_reducible refine bstep (by with_reducible assumption) ?_) | (with_reducible refine Below.alloc ?_ ?_ _) | (with_reducible refine Below.drew ?_) | (with_reducible refine below_drewN ?_ _) | (with_reducible refine Below.setCell ?_ ?_ _) | go_size))⟩
        · have Q1 := Lib.hid hq
          have c0 := (hq 42).trans (tn_get X 14 42 (by omega))
          have c1 := (hq 43).trans (tn_get X 14 43 (by omega))
          have c2 := (hq 44).trans (tn_get X 14 44 (by omega))
          have y0 := (P1.out 24).trans (HX.out 24 (by omega))
          have y1 := (P1.out 25).trans (HX.out 25 (by omega))
          have y2 := (P1.out 26).trans (HX.out 26 (by omega))
          have l2 : w1.heap.size + 1 < wr.heap.size := World.block_lt_of_cell? _ _ c0
          clear hq
          go_wp2_with fail
          go_roundg 1
          case measure => omega
          case rel =>
            have HB' := HBX.out
            exact ⟨.inr (.inr (.inr (.inl ⟨rfl, by simp, by omega, st3_blk Q1.out (by rw [tn_size]; omega) (by rw [tn_size]; omega) (by rw [tn_size]; omega) (tn_step X 14 42 43 44 24 25 26 rfl rfl rfl rfl rfl rfl)⟩))), st3_far n1 P1.out, st3_far n2 hc', fun o => by simp [hf'], by (repeat' (first | (with_reducible exact Below.refl _ _) | (with_reducible refine bstep (by with_reducible assumption) ?_) | (with_reducible refine Below.alloc ?_ ?_ _) | (with_reducible refine Below.drew ?_) | (with_reducible refine below_drewN ?_ _) | (with_reducible refine Below.setCell ?_ ?_ _) | go_size))⟩
        · have Q1 := Lib.hid hq
          have c0 := (hq 45).trans (tn_get X 15 45 (by omega))
          have c1 := (hq 46).trans (tn_get X 15 46 (by omega))
          have c2 := (hq 47).trans (tn_get X 15 47 (by omega))
          have y0 := (P1.out 36).trans (HX.out 36 (by omega))
          have y1 := (P1.out 37).trans (HX.out 37 (by omega))
          have y2 := (P1.out 38).trans (HX.out 38 (by omega))
          have l2 : w1.heap.size + 1 < wr.heap.size := World.block_lt_of_cell? _ _ c0
          clear hq
          go_wp2_with fail
          go_roundg 0
          case measure => omega
          case rel =>
            have HB' := HBX.out
            exact ⟨.inr (.inr (.inr (.inr (⟨rfl, by simp, by omega, st3_blk Q1.out (by rw [tn_size]; omega) (by rw [tn_size]; omega) (by rw [tn_size]; omega) (tn_step X 15 45 46 47 36 37 38 rfl rfl rfl rfl rfl rfl)⟩)))), st3_far n1 P1.out, st3_far n2 hc', fun o => by simp [hf'], by (repeat' (first | (with_reducible exact Below.refl _ _) | (with_reducible refine bstep (by with_reducible assumption) ?_) | (with_reducible refine Below.alloc ?_ ?_ _) | (with_reducible refine Below.drew ?_) | (with_reducible refine below_drewN ?_ _) | (with_reducible refine Below.setCell ?_ ?_ _) | go_size))⟩
        · have Q1 := Lib.hid hq
          clear hq
          go_wp2_with fail
          go_roundg 0
          case measure => omega
          case rel => exact ⟨.inr (.inr (.inr (.inr (⟨rfl, by simp, by omega, Q1.out⟩)))), P1.out, hc', hf', HBX.out⟩
    · have Q0 := Lib.hid hq
      have hs0' : 0 < (tn X 16).size := by rw [tn_size]; omega
      have l2 : w1.heap.size + 1 < wr.heap.size := blk_lt hs0' hq
      clear hq
      go_wp2_with (first
        | (((refine (load_arr rfl _ rfl w.heap.size rfl cs hs48 ?_ ?_)); (focus ((repeat (first | (with_reducible exact Hid.out (by assumption)) | (with_reducible refine blk_alloc hs0 _ ?_) | (with_reducible refine blk_drew ?_)))))))
        | ((refine (load_arr rfl _ rfl (w1.heap.size + 1) rfl (tn X 16) (tn_size X 16) ?_ ?_)); (focus (exact blk_alloc hs0' _ Q1.out)))
        | (go_at_call 38; ((with_reducible refine (S1.out _).mono ?_); rintro e v1 ⟨rfl, gb1⟩; have Q1 := Lib.hid (blk_later hs0' gb1 Q0.out); have c1 := blk_later (by simp) gb1 hc; have t1 : w1.heap.size < v1.heap.size := blk_lt (by simp) c1; have t1' : w1.heap.size + 1 < v1.heap.size := blk_lt hs0' Q1.out))
        | (go_at_call 38; ((with_reducible refine (S2.out _).mono ?_); rintro e v2 ⟨rfl, gb2⟩; have c2 := blk_later (by simp) gb2 (blk_alloc (by simp) _ c1); have b2 := blk_later (by simp) gb2 (new_at rfl _ _); have t2 : w1.heap.size < v2.heap.size := blk_lt (by simp) c2; have t2' : v1.heap.size < v2.heap.size := blk_lt (by simp) b2; clear c1)))
      have c3 := blk_alloc (by simp) (.cells #[.int .i64 e1, .int .i64 e2, .int .i64 e3, .int .i64 e0] 53) c2
      have b3 := blk_alloc (by simp) (.cells #[.int .i64 e1, .int .i64 e2, .int .i64 e3, .int .i64 e0] 53) b2
      have d3 : ∀ o, (v2.alloc (.cells #[.int .i64 e1, .int .i64 e2, .int .i64 e3, .int .i64 e0] 53)).cell? ⟨v2.heap.size, o, none⟩ = (#[.int .i64 e1, .int .i64 e2, .int .i64 e3, .int .i64 e0] : Array Value)[o]? := new_at rfl _ _
      go_region_held3 (fun w' => (∀ o, w'.cell? ⟨w1.heap.size, o, none⟩ = (C12 (X 0) (X 1) (X 2) (X 3) (X 4) (X 5) (X 6) (X 7) (X 8) (X 9) (X 10) (X 11))[o]?) ∧ (∀ o, w'.cell? ⟨v1.heap.size, o, none⟩ = (#[.int .i64 e0, .int .i64 e1, .int .i64 e2, .int .i64 e3] : Array Value)[o]?) ∧ (∀ o, w'.cell? ⟨v2.heap.size, o, none⟩ = (#[.int .i64 e1, .int .i64 e2, .int .i64 e3, .int .i64 e0] : Array Value)[o]?))
        (((first | (go_split_ands; skip) | skip); (repeat' apply And.intro) <;> (first | assumption | (with_reducible exact blk_drew (by assumption)) | (with_reducible exact blk_later (by simp) (by assumption) (by assumption)))))
        (first
          | (go_at_call 15; ((with_reducible refine (E3.out _).mono ?_); rintro e v3 ⟨rfl, gb3⟩; have gs3 := gb3.size))
          | (go_at_call 15; ((with_reducible refine (E4.out _).mono ?_); rintro e v4 ⟨rfl, gb4⟩; have gs4 := gb4.size)))
      all_goals
        have HB' := HB.out
        go_wp2_with fail
        go_returns
        exact ⟨by simp, by (repeat' (first | (with_reducible exact Below.refl _ _) | (with_reducible refine bstep (by with_reducible assumption) ?_) | (with_reducible refine Below.alloc ?_ ?_ _) | (with_reducible refine Below.drew ?_) | (with_reducible refine below_drewN ?_ _) | (with_reducible refine Below.setCell ?_ ?_ _) | go_size))⟩
theorem rateBack_walk (xs : List Int) (hl : xs.length = 48) (_ : ∀ x ∈ xs, I64 x) (unit : Int) (_ : I64 unit) (w : World) :
    Calls Try.prog 13 #[.agg (xs.map (Value.int .i64)).toArray, .int .i64 unit] w fun e w' => e = .returned (.bool true) ∧ Below w.heap.size w w' :=
  back_flat _ _ (is48_list hl) unit w
end Go.Proofs.Ytbmemnbfdbpdkaa
