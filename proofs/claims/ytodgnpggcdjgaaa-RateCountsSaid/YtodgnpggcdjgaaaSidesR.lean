/- What rate.Sides answers: a contract; an edge told backwards has as many parts. -/
import Derived.Test.YtodgnpggcdjgaaaAlive12
import Derived.Test.YtodgnpggcdjgaaaArr
import Derived.Test.YtodgnpggcdjgaaaSet
namespace Go.Proofs.Ytodgnpggcdjgaaa
open Go.RowKit
set_option maxRecDepth 100000
set_option linter.unusedSimpArgs false
set_option linter.unusedVariables false
/-- The parts of a curve. -/
def edgP (x0 y0 z0 x1 y1 z1 x2 y2 z2 x3 y3 z3 unit : Int) : Int := edgeF (allIn x0 y0 z0 x1 y1 z1 x2 y2 z2 x3 y3 z3) (lenF x0 y0 z0 x1 y1 z1 x2 y2 z2 x3 y3 z3) unit
theorem wayF_neg (x y z : Int) : wayF (-x) (-y) (-z) = wayF x y z := by unfold wayF mx; repeat' split <;> omega
theorem edgP_back (x0 y0 z0 x1 y1 z1 x2 y2 z2 x3 y3 z3 unit : Int) : edgP x3 y3 z3 x2 y2 z2 x1 y1 z1 x0 y0 z0 unit = edgP x0 y0 z0 x1 y1 z1 x2 y2 z2 x3 y3 z3 unit := by
  have e : ∀ a b c a' b' c' : Int, wayF (a - a') (b - b') (c - c') = wayF (a' - a) (b' - b) (c' - c) := fun a b c a' b' c' => by
    rw [← wayF_neg (a - a')]; congr 1 <;> omega
  have h1 : allIn x3 y3 z3 x2 y2 z2 x1 y1 z1 x0 y0 z0 = allIn x0 y0 z0 x1 y1 z1 x2 y2 z2 x3 y3 z3 := by
    unfold allIn
    cases inB x0 y0 z0 65536 <;> cases inB x1 y1 z1 65536 <;> cases inB x2 y2 z2 65536 <;> cases inB x3 y3 z3 65536 <;> rfl
  have h2 : lenF x3 y3 z3 x2 y2 z2 x1 y1 z1 x0 y0 z0 = lenF x0 y0 z0 x1 y1 z1 x2 y2 z2 x3 y3 z3 := by
    unfold lenF
    rw [e x2, e x1, e x0]; omega
  unfold edgP
  rw [h1, h2]
abbrev C4i (a b c d : Int) : Array Value := #[.int .i64 a, .int .i64 b, .int .i64 c, .int .i64 d]
def SdRel (g B : Nat) (cs q0 q1 q2 q3 q4 : Array Value) (w : World) (k : Nat) (i : Value) (wr : World) : Prop :=
  ((k = 4 ∧ i = .int .i64 0 ∧ 0 ≤ g ∧ (∀ o, wr.cell? ⟨B + 1 + 1, o, none⟩ = q0[o]?)) ∨ (k = 3 ∧ i = .int .i64 1 ∧ 1 ≤ g ∧ (∀ o, wr.cell? ⟨B + 1 + 1, o, none⟩ = q1[o]?)) ∨
   (k = 2 ∧ i = .int .i64 2 ∧ 2 ≤ g ∧ (∀ o, wr.cell? ⟨B + 1 + 1, o, none⟩ = q2[o]?)) ∨ (k = 1 ∧ i = .int .i64 3 ∧ 3 ≤ g ∧ (∀ o, wr.cell? ⟨B + 1 + 1, o, none⟩ = q3[o]?)) ∨
   (k = 0 ∧ i = .int .i64 4 ∧ 4 ≤ g ∧ (∀ o, wr.cell? ⟨B + 1 + 1, o, none⟩ = q4[o]?))) ∧
  (∀ o, wr.cell? ⟨B, o, none⟩ = cs[o]?) ∧ (∀ o, wr.cell? ⟨B + 1, o, none⟩ = (C4i 0 0 0 0)[o]?) ∧ (∀ o, wr.frozen? ⟨B + 1 + 1, o, none⟩ = false) ∧ (∀ o, wr.frozen? ⟨B + 1, o, none⟩ = false) ∧ Below B w wr
theorem st4_blk {W : World} {b : Nat} {cs : Array Value} (h : ∀ o, W.cell? ⟨b, o, none⟩ = cs[o]?) (hs : cs.size = 4) (u0 u1 u2 u3 : Value) :
    ∀ o, ((((W.setCell ⟨b, 0, none⟩ u0).setCell ⟨b, 1, none⟩ u1).setCell ⟨b, 2, none⟩ u2).setCell ⟨b, 3, none⟩ u3).cell? ⟨b, o, none⟩ = (#[u0, u1, u2, u3] : Array Value)[o]? := by
  have e := st_blk (st_blk (st_blk (st_blk h 0 u0 (by omega)) 1 u1 (by simp [hs])) 2 u2 (by simp [hs])) 3 u3 (by simp [hs])
  refine fun o => (e o).trans (congrArg (fun a : Array Value => a[o]?) ?_)
  clear e
  obtain ⟨c0, c1, c2, c3, hc⟩ := list4 (l := cs.toList) (by simpa using hs)
  apply Array.ext'
  simp only [Array.toList_setIfInBounds, hc, List.set_cons_zero, List.set_cons_succ]
set_option maxHeartbeats 8000000 in
theorem sides_is (cs : Array Value) (X : Nat → Int) (hX : Is48 cs X) (unit e0 e1 e2 e3 : Int) (h0 : edgP (X 0) (X 1) (X 2) (X 3) (X 4) (X 5) (X 6) (X 7) (X 8) (X 9) (X 10) (X 11) unit = e0) (h1 : edgP (X 9) (X 10) (X 11) (X 21) (X 22) (X 23) (X 33) (X 34) (X 35) (X 45) (X 46) (X 47) unit = e1) (h2 : edgP (X 45) (X 46) (X 47) (X 42) (X 43) (X 44) (X 39) (X 40) (X 41) (X 36) (X 37) (X 38) unit = e2) (h3 : edgP (X 36) (X 37) (X 38) (X 24) (X 25) (X 26) (X 12) (X 13) (X 14) (X 0) (X 1) (X 2) unit = e3) (w : World) :
    Calls Try.prog 38 #[.agg cs, .int .i64 unit] w fun e w' => e = .returned (.agg (C4i e0 e1 e2 e3)) ∧ Below w.heap.size w w' := by
  have R0 := Lib.hid (row_0 cs X hX)
  have E0 := edge_any (X 0) (X 1) (X 2) (X 3) (X 4) (X 5) (X 6) (X 7) (X 8) (X 9) (X 10) (X 11) unit
  rw [show edgeF (allIn (X 0) (X 1) (X 2) (X 3) (X 4) (X 5) (X 6) (X 7) (X 8) (X 9) (X 10) (X 11)) (lenF (X 0) (X 1) (X 2) (X 3) (X 4) (X 5) (X 6) (X 7) (X 8) (X 9) (X 10) (X 11)) unit = e0 from h0] at E0
  have E0 := Lib.hid E0
  have R1 := Lib.hid (row_1 cs X hX)
  have E1 := edge_any (X 9) (X 10) (X 11) (X 21) (X 22) (X 23) (X 33) (X 34) (X 35) (X 45) (X 46) (X 47) unit
  rw [show edgeF (allIn (X 9) (X 10) (X 11) (X 21) (X 22) (X 23) (X 33) (X 34) (X 35) (X 45) (X 46) (X 47)) (lenF (X 9) (X 10) (X 11) (X 21) (X 22) (X 23) (X 33) (X 34) (X 35) (X 45) (X 46) (X 47)) unit = e1 from h1] at E1
  have E1 := Lib.hid E1
  have R2 := Lib.hid (row_2 cs X hX)
  have E2 := edge_any (X 45) (X 46) (X 47) (X 42) (X 43) (X 44) (X 39) (X 40) (X 41) (X 36) (X 37) (X 38) unit
  rw [show edgeF (allIn (X 45) (X 46) (X 47) (X 42) (X 43) (X 44) (X 39) (X 40) (X 41) (X 36) (X 37) (X 38)) (lenF (X 45) (X 46) (X 47) (X 42) (X 43) (X 44) (X 39) (X 40) (X 41) (X 36) (X 37) (X 38)) unit = e2 from h2] at E2
  have E2 := Lib.hid E2
  have R3 := Lib.hid (row_3 cs X hX)
  have E3 := edge_any (X 36) (X 37) (X 38) (X 24) (X 25) (X 26) (X 12) (X 13) (X 14) (X 0) (X 1) (X 2) unit
  rw [show edgeF (allIn (X 36) (X 37) (X 38) (X 24) (X 25) (X 26) (X 12) (X 13) (X 14) (X 0) (X 1) (X 2)) (lenF (X 36) (X 37) (X 38) (X 24) (X 25) (X 26) (X 12) (X 13) (X 14) (X 0) (X 1) (X 2)) unit = e3 from h3] at E3
  have E3 := Lib.hid E3
  obtain ⟨hs48, _⟩ := hX
  have hs0 : 0 < cs.size := by omega
  clear h0 h1 h2 h3
  go_enter Try.func38, Try.ntmps38
  go_wp2_with fail
  go_loopg [6, 7] 4 (fun k _ i wr => SdRel 4 w.heap.size cs (C4i 0 0 0 0) (C4i e0 0 0 0) (C4i e0 e1 0 0) (C4i e0 e1 e2 0) (C4i e0 e1 e2 e3) w k i wr)
  case atStart => exact ⟨.inl ⟨rfl, rfl, by omega, by (repeat (first | (with_reducible assumption) | (focus ((with_reducible refine new_at ?_ _ _); (repeat (first | (with_reducible rfl) | (with_reducible refine sz1 ?_))); done)) | (with_reducible refine blk_alloc (by simp) _ ?_) | (with_reducible refine blk_drew ?_)))⟩, by (repeat (first | (with_reducible assumption) | (focus ((with_reducible refine new_at ?_ _ _); (repeat (first | (with_reducible rfl) | (with_reducible refine sz1 ?_))); done)) | (with_reducible refine blk_alloc hs0 _ ?_) | (with_reducible refine blk_drew ?_))), by (repeat (first | (with_reducible assumption) | (focus ((with_reducible refine new_at ?_ _ _); (repeat (first | (with_reducible rfl) | (with_reducible refine sz1 ?_))); done)) | (with_reducible refine blk_alloc (by simp) _ ?_) | (with_reducible refine blk_drew ?_))), by (repeat (first | (with_reducible assumption) | (focus ((with_reducible refine fro_new ?_ _ _); (repeat (first | (with_reducible rfl) | (with_reducible refine sz1 ?_))); done)) | ((with_reducible refine fro_more ?_ _ ?_); (repeat (first | (with_reducible assumption) | (focus ((with_reducible refine lt_new ?_); (repeat (first | (with_reducible rfl) | (with_reducible refine sz1 ?_))); done)) | (with_reducible refine lt_here ?_)))))), by (repeat (first | (with_reducible assumption) | (focus ((with_reducible refine fro_new ?_ _ _); (repeat (first | (with_reducible rfl) | (with_reducible refine sz1 ?_))); done)) | ((with_reducible refine fro_more ?_ _ ?_); (repeat (first | (with_reducible assumption) | (focus ((with_reducible refine lt_new ?_); (repeat (first | (with_reducible rfl) | (with_reducible refine sz1 ?_))); done)) | (with_reducible refine lt_here ?_)))))), by (repeat' (first | (with_reducible exact Below.refl _ _) | (with_reducible refine bstep (by with_reducible assumption) ?_) | (with_reducible refine Below.alloc ?_ ?_ _) | (with_reducible refine Below.drew ?_) | (with_reducible refine below_drewN ?_ _) | (with_reducible refine Below.setCell ?_ ?_ _) | go_size))⟩
  case round =>
    obtain ⟨hk, hp, hz, hf, hg, hB⟩ := hrel
    have HB := Lib.hid hB
    have P0 := Lib.hid hp
    have l0 : w.heap.size < wr.heap.size := blk_lt hs0 hp
    clear hB hp
    have n1 : w.heap.size + 1 + 1 ≠ w.heap.size := by omega
    have n2 : w.heap.size + 1 + 1 ≠ w.heap.size + 1 := by omega
    rcases hk with ⟨rfl, rfl, hg', hq⟩ | ⟨rfl, rfl, hg', hq⟩ | ⟨rfl, rfl, hg', hq⟩ | ⟨rfl, rfl, hg', hq⟩ | ⟨rfl, rfl, hg', hq⟩
    · have l1 : w.heap.size + 1 + 1 < wr.heap.size := blk_lt (by simp) hq
      have l2 : w.heap.size + 1 < wr.heap.size := blk_lt (by simp) hz
      go_wp2_with (first
        | (((refine (load_arr rfl _ rfl w.heap.size rfl cs hs48 ?_ ?_)); (focus ((repeat (first | (with_reducible exact Hid.out (by assumption)) | (with_reducible refine blk_alloc hs0 _ ?_) | (with_reducible refine blk_drew ?_)))))))
        | (go_at_call 44; ((with_reducible refine (R0.out _).mono ?_); rintro e v1 ⟨rfl, gb1⟩; have P1 := Lib.hid (blk_later hs0 gb1 P0.out); have Q1 := blk_later (by simp) gb1 hq; have Z1 := blk_later (by simp) gb1 hz; have F1 := fro_call gb1 hf l1; have G1 := fro_call gb1 hg l2; have t1 : w.heap.size + 1 + 1 < v1.heap.size := blk_lt (by simp) Q1; have t1' : w.heap.size + 1 < v1.heap.size := blk_lt (by simp) Z1; clear hq hz hf hg P0))
        | (go_at_call 15; ((with_reducible refine (E0.out _).mono ?_); rintro e v2 ⟨rfl, gb2⟩; have P2 := Lib.hid (blk_later (cs := cs) hs0 gb2 P1.out); have Q2 := blk_later (by simp) gb2 Q1; have Z2 := blk_later (by simp) gb2 Z1; have F2 := fro_call gb2 F1 t1; have G2 := fro_call gb2 G1 t1'; have t2 : w.heap.size + 1 + 1 < v2.heap.size := blk_lt (by simp) Q2; clear Q1 Z1 F1 G1 P1)))
      go_roundg 3
      case measure => omega
      case rel =>
        have HB' := HB.out
        exact ⟨.inr (.inl ⟨rfl, by simp, by omega, fun o => (st_blk Q2 0 _ (by simp) o).trans (by rfl)⟩), st_far n1 P2.out, st_far n2 Z2, fun o => by simp [F2], fun o => by simp [G2], by (repeat' (first | (with_reducible exact Below.refl _ _) | (with_reducible refine bstep (by with_reducible assumption) ?_) | (with_reducible refine Below.alloc ?_ ?_ _) | (with_reducible refine Below.drew ?_) | (with_reducible refine below_drewN ?_ _) | (with_reducible refine Below.setCell ?_ ?_ _) | go_size))⟩
    · have l1 : w.heap.size + 1 + 1 < wr.heap.size := blk_lt (by simp) hq
      have l2 : w.heap.size + 1 < wr.heap.size := blk_lt (by simp) hz
      go_wp2_with (first
        | (((refine (load_arr rfl _ rfl w.heap.size rfl cs hs48 ?_ ?_)); (focus ((repeat (first | (with_reducible exact Hid.out (by assumption)) | (with_reducible refine blk_alloc hs0 _ ?_) | (with_reducible refine blk_drew ?_)))))))
        | (go_at_call 44; ((with_reducible refine (R1.out _).mono ?_); rintro e v1 ⟨rfl, gb1⟩; have P1 := Lib.hid (blk_later hs0 gb1 P0.out); have Q1 := blk_later (by simp) gb1 hq; have Z1 := blk_later (by simp) gb1 hz; have F1 := fro_call gb1 hf l1; have G1 := fro_call gb1 hg l2; have t1 : w.heap.size + 1 + 1 < v1.heap.size := blk_lt (by simp) Q1; have t1' : w.heap.size + 1 < v1.heap.size := blk_lt (by simp) Z1; clear hq hz hf hg P0))
        | (go_at_call 15; ((with_reducible refine (E1.out _).mono ?_); rintro e v2 ⟨rfl, gb2⟩; have P2 := Lib.hid (blk_later (cs := cs) hs0 gb2 P1.out); have Q2 := blk_later (by simp) gb2 Q1; have Z2 := blk_later (by simp) gb2 Z1; have F2 := fro_call gb2 F1 t1; have G2 := fro_call gb2 G1 t1'; have t2 : w.heap.size + 1 + 1 < v2.heap.size := blk_lt (by simp) Q2; clear Q1 Z1 F1 G1 P1)))
      go_roundg 2
      case measure => omega
      case rel =>
        have HB' := HB.out
        exact ⟨.inr (.inr (.inl ⟨rfl, by simp, by omega, fun o => (st_blk Q2 1 _ (by simp) o).trans (by rfl)⟩)), st_far n1 P2.out, st_far n2 Z2, fun o => by simp [F2], fun o => by simp [G2], by (repeat' (first | (with_reducible exact Below.refl _ _) | (with_reducible refine bstep (by with_reducible assumption) ?_) | (with_reducible refine Below.alloc ?_ ?_ _) | (with_reducible refine Below.drew ?_) | (with_reducible refine below_drewN ?_ _) | (with_reducible refine Below.setCell ?_ ?_ _) | go_size))⟩
    · have l1 : w.heap.size + 1 + 1 < wr.heap.size := blk_lt (by simp) hq
      have l2 : w.heap.size + 1 < wr.heap.size := blk_lt (by simp) hz
      go_wp2_with (first
        | (((refine (load_arr rfl _ rfl w.heap.size rfl cs hs48 ?_ ?_)); (focus ((repeat (first | (with_reducible exact Hid.out (by assumption)) | (with_reducible refine blk_alloc hs0 _ ?_) | (with_reducible refine blk_drew ?_)))))))
        | (go_at_call 44; ((with_reducible refine (R2.out _).mono ?_); rintro e v1 ⟨rfl, gb1⟩; have P1 := Lib.hid (blk_later hs0 gb1 P0.out); have Q1 := blk_later (by simp) gb1 hq; have Z1 := blk_later (by simp) gb1 hz; have F1 := fro_call gb1 hf l1; have G1 := fro_call gb1 hg l2; have t1 : w.heap.size + 1 + 1 < v1.heap.size := blk_lt (by simp) Q1; have t1' : w.heap.size + 1 < v1.heap.size := blk_lt (by simp) Z1; clear hq hz hf hg P0))
        | (go_at_call 15; ((with_reducible refine (E2.out _).mono ?_); rintro e v2 ⟨rfl, gb2⟩; have P2 := Lib.hid (blk_later (cs := cs) hs0 gb2 P1.out); have Q2 := blk_later (by simp) gb2 Q1; have Z2 := blk_later (by simp) gb2 Z1; have F2 := fro_call gb2 F1 t1; have G2 := fro_call gb2 G1 t1'; have t2 : w.heap.size + 1 + 1 < v2.heap.size := blk_lt (by simp) Q2; clear Q1 Z1 F1 G1 P1)))
      go_roundg 1
      case measure => omega
      case rel =>
        have HB' := HB.out
        exact ⟨.inr (.inr (.inr (.inl ⟨rfl, by simp, by omega, fun o => (st_blk Q2 2 _ (by simp) o).trans (by rfl)⟩))), st_far n1 P2.out, st_far n2 Z2, fun o => by simp [F2], fun o => by simp [G2], by (repeat' (first | (with_reducible exact Below.refl _ _) | (with_reducible refine bstep (by with_reducible assumption) ?_) | (with_reducible refine Below.alloc ?_ ?_ _) | (with_reducible refine Below.drew ?_) | (with_reducible refine below_drewN ?_ _) | (with_reducible refine Below.setCell ?_ ?_ _) | go_size))⟩
    · have l1 : w.heap.size + 1 + 1 < wr.heap.size := blk_lt (by simp) hq
      have l2 : w.heap.size + 1 < wr.heap.size := blk_lt (by simp) hz
      go_wp2_with (first
        | (((refine (load_arr rfl _ rfl w.heap.size rfl cs hs48 ?_ ?_)); (focus ((repeat (first | (with_reducible exact Hid.out (by assumption)) | (with_reducible refine blk_alloc hs0 _ ?_) | (with_reducible refine blk_drew ?_)))))))
        | (go_at_call 44; ((with_reducible refine (R3.out _).mono ?_); rintro e v1 ⟨rfl, gb1⟩; have P1 := Lib.hid (blk_later hs0 gb1 P0.out); have Q1 := blk_later (by simp) gb1 hq; have Z1 := blk_later (by simp) gb1 hz; have F1 := fro_call gb1 hf l1; have G1 := fro_call gb1 hg l2; have t1 : w.heap.size + 1 + 1 < v1.heap.size := blk_lt (by simp) Q1; have t1' : w.heap.size + 1 < v1.heap.size := blk_lt (by simp) Z1; clear hq hz hf hg P0))
        | (go_at_call 15; ((with_reducible refine (E3.out _).mono ?_); rintro e v2 ⟨rfl, gb2⟩; have P2 := Lib.hid (blk_later (cs := cs) hs0 gb2 P1.out); have Q2 := blk_later (by simp) gb2 Q1; have Z2 := blk_later (by simp) gb2 Z1; have F2 := fro_call gb2 F1 t1; have G2 := fro_call gb2 G1 t1'; have t2 : w.heap.size + 1 + 1 < v2.heap.size := blk_lt (by simp) Q2; clear Q1 Z1 F1 G1 P1)))
      go_roundg 0
      case measure => omega
      case rel =>
        have HB' := HB.out
        exact ⟨.inr (.inr (.inr (.inr (⟨rfl, by simp, by omega, fun o => (st_blk Q2 3 _ (by simp) o).trans (by rfl)⟩)))), st_far n1 P2.out, st_far n2 Z2, fun o => by simp [F2], fun o => by simp [G2], by (repeat' (first | (with_reducible exact Below.refl _ _) | (with_reducible refine bstep (by with_reducible assumption) ?_) | (with_reducible refine Below.alloc ?_ ?_ _) | (with_reducible refine Below.drew ?_) | (with_reducible refine below_drewN ?_ _) | (with_reducible refine Below.setCell ?_ ?_ _) | go_size))⟩
    · have l1 : w.heap.size + 1 + 1 < wr.heap.size := blk_lt (by simp) hq
      have l2 : w.heap.size + 1 < wr.heap.size := blk_lt (by simp) hz
      go_wp2_with fail
      have K := st4_blk hz (by rfl) (.int .i64 e0) (.int .i64 e1) (.int .i64 e2) (.int .i64 e3)
      have k0 := K 0
      have k1 := K 1
      have k2 := K 2
      have k3 := K 3
      have HB' := HB.out
      refine bodyPost_ret (v := .agg (C4i e0 e1 e2 e3)) (by simp [results, Try.results38, go_sem, k0, k1, k2, k3]) rfl ?_
      exact ⟨rfl, by (repeat' (first | (with_reducible exact Below.refl _ _) | (with_reducible refine bstep (by with_reducible assumption) ?_) | (with_reducible refine Below.alloc ?_ ?_ _) | (with_reducible refine Below.drew ?_) | (with_reducible refine below_drewN ?_ _) | (with_reducible refine Below.setCell ?_ ?_ _) | go_size))⟩
end Go.Proofs.Ytodgnpggcdjgaaa
