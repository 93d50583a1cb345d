/- What vec.Bound answers: a contract, for all slices of points of 64 bits. -/
import Derived.Test.YtodgnpggcdjgaaaBox
import Derived.Test.YtodgnpggcdjgaaaSlices
namespace Go.Proofs.Ytodgnpggcdjgaaa
open Go.RowKit
set_option maxRecDepth 100000
set_option linter.unusedSimpArgs false
set_option linter.unusedVariables false
/-- Where the loop stands: j points beyond the first are in the box. -/
def BRel (n S : Nat) (X : Nat → Int) (w : World) (k : Nat) (i : Value) (wr : World) : Prop :=
  ∃ j, j + 1 ≤ n ∧ k = n - 1 - j ∧ i = .int .i64 (j : Int) ∧ (∀ o, wr.cell? ⟨S + 1, o, none⟩ = (#[.int .i64 (lo X 0 j), .int .i64 (lo X 1 j), .int .i64 (lo X 2 j), .int .i64 (hi X 0 j), .int .i64 (hi X 1 j), .int .i64 (hi X 2 j)] : Array Value)[o]?) ∧ (∀ o, wr.frozen? ⟨S + 1, o, none⟩ = false) ∧
    (∀ o, wr.cell? ⟨S, o, none⟩ = (#[.int .i64 0, .int .i64 0, .int .i64 0, .int .i64 0, .int .i64 0, .int .i64 0] : Array Value)[o]?) ∧ (∀ o, wr.frozen? ⟨S, o, none⟩ = false) ∧ Below S w wr
set_option maxHeartbeats 2000000 in
theorem bound_one (b off : Nat) (X : Nat → Int) (w : World) (hlt : b < w.heap.size) (hcell : ∀ o, o < 3 → w.cell? ⟨b, off + o, none⟩ = some (.int .i64 (X o))) :
    Calls Try.prog 29 #[.slice (some ⟨b, off, none⟩) 1 1] w fun e w' => e = .returned (.tuple #[B6 (X 0) (X 1) (X 2) (X 0) (X 1) (X 2), .bool true]) ∧ Below w.heap.size w w' := by
  have C0 := hcell 0 (by omega)
  have C1 := hcell 1 (by omega)
  have C2 := hcell 2 (by omega)
  clear hcell
  rw [Nat.add_zero] at C0
  go_enter Try.func29, Try.ntmps29
  go_wp2_with fail
  have D0 := cell_alloc (.cells #[.int .i64 0, .int .i64 0, .int .i64 0, .int .i64 0, .int .i64 0, .int .i64 0] 41) C0
  have D1 := cell_alloc (.cells #[.int .i64 0, .int .i64 0, .int .i64 0, .int .i64 0, .int .i64 0, .int .i64 0] 41) C1
  have D2 := cell_alloc (.cells #[.int .i64 0, .int .i64 0, .int .i64 0, .int .i64 0, .int .i64 0, .int .i64 0] 41) C2
  go_region_held3 (fun w' => w'.cell? ⟨b, off, none⟩ = some (.int .i64 (X 0)) ∧ w'.cell? ⟨b, off + 1, none⟩ = some (.int .i64 (X 1)) ∧ w'.cell? ⟨b, off + 2, none⟩ = some (.int .i64 (X 2)))
    (((first | (go_split_ands; skip) | skip); (repeat' apply And.intro) <;> (first | assumption | (with_reducible exact cell_drew (by assumption)) | (with_reducible exact cell_alloc _ (by assumption)) | (go_keep; done) | (simp [*, go_sem]; done))))
    (fail)
  all_goals
    clear D0 D1 D2
    go_wp2_with fail
    go_loopg [21] 0 (fun k i wr => BRel 1 w.heap.size X w k i wr)
    case atStart => exact ⟨0, by omega, by omega, rfl, by simp only [lo, hi]; (repeat (first | (with_reducible assumption) | (focus ((with_reducible refine new_at ?_ _ _); (repeat (first | (with_reducible rfl) | (with_reducible refine sz1 ?_) | (with_reducible refine sz_drew ?_))); done)) | (with_reducible refine blk_alloc (by simp) _ ?_) | (with_reducible refine blk_drew ?_))), by (repeat (first | (with_reducible assumption) | (focus ((with_reducible refine fro_new ?_ _ _); (repeat (first | (with_reducible rfl) | (with_reducible refine sz1 ?_) | (with_reducible refine sz_drew ?_))); done)) | ((with_reducible refine fro_more ?_ _ ?_); (repeat (first | (with_reducible assumption) | (focus ((with_reducible refine lt_new ?_); (repeat (first | (with_reducible rfl) | (with_reducible refine sz1 ?_) | (with_reducible refine sz_drew ?_))); done)) | (with_reducible refine lt_here ?_) | (with_reducible refine lt_drew ?_)))) | (with_reducible refine fro_drew ?_))), by (repeat (first | (with_reducible assumption) | (focus ((with_reducible refine new_at ?_ _ _); (repeat (first | (with_reducible rfl) | (with_reducible refine sz1 ?_) | (with_reducible refine sz_drew ?_))); done)) | (with_reducible refine blk_alloc (by simp) _ ?_) | (with_reducible refine blk_drew ?_))), by (repeat (first | (with_reducible assumption) | (focus ((with_reducible refine fro_new ?_ _ _); (repeat (first | (with_reducible rfl) | (with_reducible refine sz1 ?_) | (with_reducible refine sz_drew ?_))); done)) | ((with_reducible refine fro_more ?_ _ ?_); (repeat (first | (with_reducible assumption) | (focus ((with_reducible refine lt_new ?_); (repeat (first | (with_reducible rfl) | (with_reducible refine sz1 ?_) | (with_reducible refine sz_drew ?_))); done)) | (with_reducible refine lt_here ?_) | (with_reducible refine lt_drew ?_)))) | (with_reducible refine fro_drew ?_))), by (repeat' (first | (with_reducible exact Below.refl _ _) | (with_reducible refine bstep (by with_reducible assumption) ?_) | (with_reducible refine Below.alloc ?_ ?_ _) | (with_reducible refine Below.drew ?_) | (with_reducible refine below_drewN ?_ _) | (with_reducible refine Below.setCell ?_ ?_ _) | go_size))⟩
    case round =>
      obtain ⟨j, hj, rfl, rfl, B1, F1, Z1, G1, hb⟩ := hrel
      obtain rfl : j = 0 := by omega
      have hl1 : w.heap.size + 1 < wr.heap.size := blk_lt (by simp) B1
      have hl0 : w.heap.size < wr.heap.size := by omega
      go_wp2_with fail
      have K := s6_blk (u0 := .int .i64 (lo X 0 0)) (u1 := .int .i64 (lo X 1 0)) (u2 := .int .i64 (lo X 2 0)) (u3 := .int .i64 (hi X 0 0)) (u4 := .int .i64 (hi X 1 0)) (u5 := .int .i64 (hi X 2 0)) (by simp) Z1
      have k0 := K 0
      have k1 := K 1
      have k2 := K 2
      have k3 := K 3
      have k4 := K 4
      have k5 := K 5
      refine bodyPost_ret (v := .tuple #[B6 (lo X 0 0) (lo X 1 0) (lo X 2 0) (hi X 0 0) (hi X 1 0) (hi X 2 0), .bool true]) (by simp [results, Try.results29, go_sem, k0, k1, k2, k3, k4, k5]) rfl ?_
      exact ⟨rfl, by (repeat' (first | (with_reducible exact Below.refl _ _) | (with_reducible refine bstep (by with_reducible assumption) ?_) | (with_reducible refine Below.alloc ?_ ?_ _) | (with_reducible refine Below.drew ?_) | (with_reducible refine below_drewN ?_ _) | (with_reducible refine Below.setCell ?_ ?_ _) | go_size))⟩
set_option maxHeartbeats 2000000 in
theorem bound_more (b off n c : Nat) (X : Nat → Int) (h0 : 0 < n) (hc1 : ¬ c = 1) (hc : n ≤ c) (hm : c ≤ maxLen) (w : World) (hlt : b < w.heap.size) (hcell : ∀ o, o < n * 3 → w.cell? ⟨b, off + o, none⟩ = some (.int .i64 (X o))) :
    Calls Try.prog 29 #[.slice (some ⟨b, off, none⟩) n c] w fun e w' => e = .returned (.tuple #[B6 (lo X 0 (n - 1)) (lo X 1 (n - 1)) (lo X 2 (n - 1)) (hi X 0 (n - 1)) (hi X 1 (n - 1)) (hi X 2 (n - 1)), .bool true]) ∧ Below w.heap.size w w' := by
  have HC := Lib.hid hcell
  have n0 : ¬ n = 0 := by omega
  have hn1 : (0 : Int) < (n : Int) := by omega
  have hn2 : (1 : Int) ≤ (n : Int) := by omega
  have C0 := hcell 0 (by omega)
  have C1 := hcell 1 (by omega)
  have C2 := hcell 2 (by omega)
  clear hcell
  rw [Nat.add_zero] at C0
  go_enter Try.func29, Try.ntmps29
  go_wp2_with fail
  have D0 := cell_alloc (.cells #[.int .i64 0, .int .i64 0, .int .i64 0, .int .i64 0, .int .i64 0, .int .i64 0] 41) C0
  have D1 := cell_alloc (.cells #[.int .i64 0, .int .i64 0, .int .i64 0, .int .i64 0, .int .i64 0, .int .i64 0] 41) C1
  have D2 := cell_alloc (.cells #[.int .i64 0, .int .i64 0, .int .i64 0, .int .i64 0, .int .i64 0, .int .i64 0] 41) C2
  go_region_held3 (fun w' => w'.cell? ⟨b, off, none⟩ = some (.int .i64 (X 0)) ∧ w'.cell? ⟨b, off + 1, none⟩ = some (.int .i64 (X 1)) ∧ w'.cell? ⟨b, off + 2, none⟩ = some (.int .i64 (X 2)))
    (((first | (go_split_ands; skip) | skip); (repeat' apply And.intro) <;> (first | assumption | (with_reducible exact cell_drew (by assumption)) | (with_reducible exact cell_alloc _ (by assumption)) | (go_keep; done) | (simp [*, go_sem]; done))))
    (fail)
  all_goals
    clear D0 D1 D2
    go_wp2_with fail
    go_loopg [21] (n - 1) (fun k i wr => BRel n w.heap.size X w k i wr)
    case atStart => exact ⟨0, by omega, by omega, rfl, by simp only [lo, hi]; (repeat (first | (with_reducible assumption) | (focus ((with_reducible refine new_at ?_ _ _); (repeat (first | (with_reducible rfl) | (with_reducible refine sz1 ?_) | (with_reducible refine sz_drew ?_))); done)) | (with_reducible refine blk_alloc (by simp) _ ?_) | (with_reducible refine blk_drew ?_))), by (repeat (first | (with_reducible assumption) | (focus ((with_reducible refine fro_new ?_ _ _); (repeat (first | (with_reducible rfl) | (with_reducible refine sz1 ?_) | (with_reducible refine sz_drew ?_))); done)) | ((with_reducible refine fro_more ?_ _ ?_); (repeat (first | (with_reducible assumption) | (focus ((with_reducible refine lt_new ?_); (repeat (first | (with_reducible rfl) | (with_reducible refine sz1 ?_) | (with_reducible refine sz_drew ?_))); done)) | (with_reducible refine lt_here ?_) | (with_reducible refine lt_drew ?_)))) | (with_reducible refine fro_drew ?_))), by (repeat (first | (with_reducible assumption) | (focus ((with_reducible refine new_at ?_ _ _); (repeat (first | (with_reducible rfl) | (with_reducible refine sz1 ?_) | (with_reducible refine sz_drew ?_))); done)) | (with_reducible refine blk_alloc (by simp) _ ?_) | (with_reducible refine blk_drew ?_))), by (repeat (first | (with_reducible assumption) | (focus ((with_reducible refine fro_new ?_ _ _); (repeat (first | (with_reducible rfl) | (with_reducible refine sz1 ?_) | (with_reducible refine sz_drew ?_))); done)) | ((with_reducible refine fro_more ?_ _ ?_); (repeat (first | (with_reducible assumption) | (focus ((with_reducible refine lt_new ?_); (repeat (first | (with_reducible rfl) | (with_reducible refine sz1 ?_) | (with_reducible refine sz_drew ?_))); done)) | (with_reducible refine lt_here ?_) | (with_reducible refine lt_drew ?_)))) | (with_reducible refine fro_drew ?_))), by (repeat' (first | (with_reducible exact Below.refl _ _) | (with_reducible refine bstep (by with_reducible assumption) ?_) | (with_reducible refine Below.alloc ?_ ?_ _) | (with_reducible refine Below.drew ?_) | (with_reducible refine below_drewN ?_ _) | (with_reducible refine Below.setCell ?_ ?_ _) | go_size))⟩
    case round =>
      obtain ⟨j, hj, rfl, rfl, B1, F1, Z1, G1, hb⟩ := hrel
      have HB := Lib.hid hb
      by_cases hlt' : j + 1 < n
      · have x0 := (hb.cell (p := ⟨b, off + ((j + 1) * 3 + 0), none⟩) hlt).trans (HC.out ((j + 1) * 3 + 0) (by omega))
        have x1 := (hb.cell (p := ⟨b, off + ((j + 1) * 3 + 1), none⟩) hlt).trans (HC.out ((j + 1) * 3 + 1) (by omega))
        have x2 := (hb.cell (p := ⟨b, off + ((j + 1) * 3 + 2), none⟩) hlt).trans (HC.out ((j + 1) * 3 + 2) (by omega))
        rw [show off + ((j + 1) * 3 + 0) = off + 3 + j * 3 by omega] at x0
        rw [show off + ((j + 1) * 3 + 1) = off + 3 + j * 3 + 1 by omega] at x1
        rw [show off + ((j + 1) * 3 + 2) = off + 3 + j * 3 + 2 by omega] at x2
        have hj0 : (0 : Int) ≤ (j : Int) := by omega
        have hj1 : (j : Int) < (n : Int) - 1 := by omega
        have hl1 : w.heap.size + 1 < wr.heap.size := blk_lt (by simp) B1
        have hl0 : w.heap.size < wr.heap.size := by omega
        have ns : w.heap.size + 1 ≠ w.heap.size := by omega
        have JN := Lib.hid (join_any (lo X 0 j) (lo X 1 j) (lo X 2 j) (hi X 0 j) (hi X 1 j) (hi X 2 j) (X ((j + 1) * 3)) (X ((j + 1) * 3 + 1)) (X ((j + 1) * 3 + 2)) (X ((j + 1) * 3)) (X ((j + 1) * 3 + 1)) (X ((j + 1) * 3 + 2)))
        clear hb
        go_wp2_with (go_at_call 31; ((with_reducible refine (JN.out _).mono ?_); rintro e w2 ⟨rfl, hb2⟩; have B2 := blk_later (by simp) hb2 (blk_alloc (by simp) _ B1); have Z2 := blk_later (by simp) hb2 (blk_alloc (by simp) _ Z1); have F2 := fro_call hb2 (fro_more hl1 _ F1) (lt_here hl1); have G2 := fro_call hb2 (fro_more hl0 _ G1) (lt_here hl0); have hl2 : w.heap.size + 1 < w2.heap.size := blk_lt (by simp) B2; clear B1 Z1 F1 G1))
        have HB' := HB.out
        go_roundg (n - 1 - (j + 1))
        case measure => omega
        case rel => exact ⟨j + 1, by omega, rfl, by first | (simp; done) | (simp; exact w64 (by omega) (by have := hm; unfold maxLen at this; omega)), s6_blk (by simp) B2, fun o => by simp [F2], s6_far ns Z2, fun o => by simp [G2], by (repeat' (first | (with_reducible exact Below.refl _ _) | (with_reducible refine bstep (by with_reducible assumption) ?_) | (with_reducible refine Below.alloc ?_ ?_ _) | (with_reducible refine Below.drew ?_) | (with_reducible refine below_drewN ?_ _) | (with_reducible refine Below.setCell ?_ ?_ _) | go_size))⟩
      · obtain rfl : j = n - 1 := by omega
        have hl1 : w.heap.size + 1 < wr.heap.size := blk_lt (by simp) B1
        have hl0 : w.heap.size < wr.heap.size := by omega
        have hj1 : ¬ (((n - 1 : Nat) : Int) < ((n - 1 : Nat) : Int)) := by omega
        clear hb
        go_wp2_with fail
        have HB' := HB.out
        have K := s6_blk (u0 := .int .i64 (lo X 0 (n - 1))) (u1 := .int .i64 (lo X 1 (n - 1))) (u2 := .int .i64 (lo X 2 (n - 1))) (u3 := .int .i64 (hi X 0 (n - 1))) (u4 := .int .i64 (hi X 1 (n - 1))) (u5 := .int .i64 (hi X 2 (n - 1))) (by simp) Z1
        have k0 := K 0
        have k1 := K 1
        have k2 := K 2
        have k3 := K 3
        have k4 := K 4
        have k5 := K 5
        refine bodyPost_ret (v := .tuple #[B6 (lo X 0 (n - 1)) (lo X 1 (n - 1)) (lo X 2 (n - 1)) (hi X 0 (n - 1)) (hi X 1 (n - 1)) (hi X 2 (n - 1)), .bool true]) (by simp [results, Try.results29, go_sem, k0, k1, k2, k3, k4, k5]) rfl ?_
        exact ⟨rfl, by (repeat' (first | (with_reducible exact Below.refl _ _) | (with_reducible refine bstep (by with_reducible assumption) ?_) | (with_reducible refine Below.alloc ?_ ?_ _) | (with_reducible refine Below.drew ?_) | (with_reducible refine below_drewN ?_ _) | (with_reducible refine Below.setCell ?_ ?_ _) | go_size))⟩

/-- No points: no box. -/
theorem bound_none (p : Option Addr) (c : Nat) (w : World) :
    Calls Try.prog 29 #[.slice p 0 c] w fun e w' => e = .returned (.tuple #[B6 0 0 0 0 0 0, .bool false]) ∧ Below w.heap.size w w' := by
  go_enter Try.func29, Try.ntmps29
  go_wp2_with fail
  go_returns
  exact ⟨by simp, by go_grown⟩
/-- Points: the least box that has all. -/
theorem bound_some (n : Nat) (v : Value) (X : Nat → Int) (h0 : 0 < n) (w : World) (hv : Pts w v n X) :
    Calls Try.prog 29 #[v] w fun e w' => e = .returned (.tuple #[B6 (lo X 0 (n - 1)) (lo X 1 (n - 1)) (lo X 2 (n - 1)) (hi X 0 (n - 1)) (hi X 1 (n - 1)) (hi X 2 (n - 1)), .bool true]) ∧ Below w.heap.size w w' := by
  rcases hv with ⟨rfl, _⟩ | ⟨b, off, c, rfl, _, h2, h3, h4, h5⟩
  · omega
  by_cases h1 : c = 1
  · subst h1
    obtain rfl : n = 1 := by omega
    exact bound_one b off X w h4 h5
  · exact bound_more b off n c X h0 h1 h2 h3 w h4 h5
end Go.Proofs.Ytodgnpggcdjgaaa
