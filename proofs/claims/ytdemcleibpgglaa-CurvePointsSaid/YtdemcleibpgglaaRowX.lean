/- What curve.Row and relievoref11.Row answer, for all sides: the same. -/
import Derived.Test.YtdemcleibpgglaaRRow
import Derived.Test.YtdemcleibpgglaaArr
namespace Go.Proofs.Ytdemcleibpgglaa
open Go.RowKit
set_option maxRecDepth 100000
set_option linter.unusedSimpArgs false
set_option linter.unusedVariables false

theorem row_x (cs : Array Value) (hs0 : 0 < cs.size) (s : Int) (hs : ¬ s = 0 ∧ ¬ s = 1 ∧ ¬ s = 2 ∧ ¬ s = 3) (w : World) :
    Calls Try.prog 30 #[.agg cs, .int .i64 s] w fun e w' => e = .returned (.agg (C12 0 0 0 0 0 0 0 0 0 0 0 0)) ∧ Below w.heap.size w w' := by
  have d0 : (s == 0) = false := beq_eq_false_iff_ne.mpr (by omega)
  have d1 : (s == 1) = false := beq_eq_false_iff_ne.mpr (by omega)
  have d2 : (s == 2) = false := beq_eq_false_iff_ne.mpr (by omega)
  have d3 : (s == 3) = false := beq_eq_false_iff_ne.mpr (by omega)
  have u0 : ¬ s = 0 := by omega
  have u1 : ¬ s = 1 := by omega
  have u2 : ¬ s = 2 := by omega
  have u3 : ¬ s = 3 := by omega
  clear hs
  go_enter Try.func30, Try.ntmps30
  go_wp2_with fail
  have K := st12_blk (W := (w.alloc (.cells cs 42)).alloc (.cells (C12 0 0 0 0 0 0 0 0 0 0 0 0) 24)) (b := w.heap.size + 1) (cs := (C12 0 0 0 0 0 0 0 0 0 0 0 0)) (by (repeat (first | (with_reducible assumption) | (focus ((with_reducible refine new_at ?_ _ _); (repeat (first | (with_reducible rfl) | (with_reducible refine sz1 ?_))); done)) | (with_reducible refine blk_alloc (by simp) _ ?_) | (with_reducible refine blk_drew ?_)))) (by rfl) (.int .i64 0) (.int .i64 0) (.int .i64 0) (.int .i64 0) (.int .i64 0) (.int .i64 0) (.int .i64 0) (.int .i64 0) (.int .i64 0) (.int .i64 0) (.int .i64 0) (.int .i64 0)
  have k0 := K 0
  have k1 := K 1
  have k2 := K 2
  have k3 := K 3
  have k4 := K 4
  have k5 := K 5
  have k6 := K 6
  have k7 := K 7
  have k8 := K 8
  have k9 := K 9
  have k10 := K 10
  have k11 := K 11
  refine bodyPost_ret (v := .agg (C12 0 0 0 0 0 0 0 0 0 0 0 0)) (by simp [results, Try.results30, go_sem, k0, k1, k2, k3, k4, k5, k6, k7, k8, k9, k10, k11]) rfl ?_
  exact ⟨rfl, by (repeat' (first | (with_reducible exact Below.refl _ _) | (with_reducible refine bstep (by with_reducible assumption) ?_) | (with_reducible refine Below.alloc ?_ ?_ _) | (with_reducible refine Below.drew ?_) | (with_reducible refine below_drewN ?_ _) | (with_reducible refine Below.setCell ?_ ?_ _) | go_size))⟩
set_option maxHeartbeats 4000000 in
theorem rrow_x (cs : Array Value) (hs0 : 0 < cs.size) (s : Int) (hs : ¬ s = 0 ∧ ¬ s = 1 ∧ ¬ s = 2 ∧ ¬ s = 3) (w : World) :
    Calls Try.prog 31 #[.agg cs, .int .i64 s] w fun e w' => e = .returned (.agg (C12 0 0 0 0 0 0 0 0 0 0 0 0)) ∧ Below w.heap.size w w' := by
  have d0 : (s == 0) = false := beq_eq_false_iff_ne.mpr (by omega)
  have d1 : (s == 1) = false := beq_eq_false_iff_ne.mpr (by omega)
  have d2 : (s == 2) = false := beq_eq_false_iff_ne.mpr (by omega)
  have d3 : (s == 3) = false := beq_eq_false_iff_ne.mpr (by omega)
  have u0 : ¬ s = 0 := by omega
  have u1 : ¬ s = 1 := by omega
  have u2 : ¬ s = 2 := by omega
  have u3 : ¬ s = 3 := by omega
  clear hs
  go_enter Try.func31, Try.ntmps31
  go_wp2_with fail
  go_loopg [6] 4 (fun k i wr => RowRel 4 w.heap.size cs (C12 0 0 0 0 0 0 0 0 0 0 0 0) (C12 0 0 0 0 0 0 0 0 0 0 0 0) (C12 0 0 0 0 0 0 0 0 0 0 0 0) (C12 0 0 0 0 0 0 0 0 0 0 0 0) (C12 0 0 0 0 0 0 0 0 0 0 0 0) w k i wr)
  case atStart => exact ⟨.inl ⟨rfl, rfl, by omega, by (repeat (first | (with_reducible assumption) | (focus ((with_reducible refine new_at ?_ _ _); (repeat (first | (with_reducible rfl) | (with_reducible refine sz1 ?_))); done)) | (with_reducible refine blk_alloc (by simp) _ ?_) | (with_reducible refine blk_drew ?_)))⟩, by (repeat (first | (with_reducible assumption) | (focus ((with_reducible refine new_at ?_ _ _); (repeat (first | (with_reducible rfl) | (with_reducible refine sz1 ?_))); done)) | (with_reducible refine blk_alloc hs0 _ ?_) | (with_reducible refine blk_drew ?_))), by (repeat (first | (with_reducible assumption) | (focus ((with_reducible refine new_at ?_ _ _); (repeat (first | (with_reducible rfl) | (with_reducible refine sz1 ?_))); done)) | (with_reducible refine blk_alloc (by simp) _ ?_) | (with_reducible refine blk_drew ?_))), by (repeat (first | (with_reducible assumption) | (focus ((with_reducible refine fro_new ?_ _ _); (repeat (first | (with_reducible rfl) | (with_reducible refine sz1 ?_))); done)) | ((with_reducible refine fro_more ?_ _ ?_); (repeat (first | (with_reducible assumption) | (focus ((with_reducible refine lt_new ?_); (repeat (first | (with_reducible rfl) | (with_reducible refine sz1 ?_))); done)) | (with_reducible refine lt_here ?_)))))), by (repeat (first | (with_reducible assumption) | (focus ((with_reducible refine fro_new ?_ _ _); (repeat (first | (with_reducible rfl) | (with_reducible refine sz1 ?_))); done)) | ((with_reducible refine fro_more ?_ _ ?_); (repeat (first | (with_reducible assumption) | (focus ((with_reducible refine lt_new ?_); (repeat (first | (with_reducible rfl) | (with_reducible refine sz1 ?_))); done)) | (with_reducible refine lt_here ?_)))))), by (repeat' (first | (with_reducible exact Below.refl _ _) | (with_reducible refine bstep (by with_reducible assumption) ?_) | (with_reducible refine Below.alloc ?_ ?_ _) | (with_reducible refine Below.drew ?_) | (with_reducible refine below_drewN ?_ _) | (with_reducible refine Below.setCell ?_ ?_ _) | go_size))⟩
  case round =>
    obtain ⟨hk, hp, hz, hf, hg, hB⟩ := hrel
    have HB := Lib.hid hB
    clear hB
    rcases hk with ⟨rfl, rfl, hg', hq⟩ | ⟨rfl, rfl, hg', hq⟩ | ⟨rfl, rfl, hg', hq⟩ | ⟨rfl, rfl, hg', hq⟩ | ⟨rfl, rfl, hg', hq⟩
    · have HP := Lib.hid hp
      clear hp
      go_wp2_with fail
      go_roundg 3
      case measure => omega
      case rel => exact ⟨.inr (.inl ⟨rfl, by simp, by omega, hq⟩), HP.out, hz, hf, hg, HB.out⟩
    · have HP := Lib.hid hp
      clear hp
      go_wp2_with fail
      go_roundg 2
      case measure => omega
      case rel => exact ⟨.inr (.inr (.inl ⟨rfl, by simp, by omega, hq⟩)), HP.out, hz, hf, hg, HB.out⟩
    · have HP := Lib.hid hp
      clear hp
      go_wp2_with fail
      go_roundg 1
      case measure => omega
      case rel => exact ⟨.inr (.inr (.inr (.inl ⟨rfl, by simp, by omega, hq⟩))), HP.out, hz, hf, hg, HB.out⟩
    · have HP := Lib.hid hp
      clear hp
      go_wp2_with fail
      go_roundg 0
      case measure => omega
      case rel => exact ⟨.inr (.inr (.inr (.inr (⟨rfl, by simp, by omega, hq⟩)))), HP.out, hz, hf, hg, HB.out⟩
    · have l1 : w.heap.size + 1 + 1 < wr.heap.size := blk_lt (by simp) hq
      have l2 : w.heap.size + 1 < wr.heap.size := blk_lt (by simp) hz
      clear hp
      go_wp2_with fail
      have K := st12_blk hz (by rfl) (.int .i64 0) (.int .i64 0) (.int .i64 0) (.int .i64 0) (.int .i64 0) (.int .i64 0) (.int .i64 0) (.int .i64 0) (.int .i64 0) (.int .i64 0) (.int .i64 0) (.int .i64 0)
      have k0 := K 0
      have k1 := K 1
      have k2 := K 2
      have k3 := K 3
      have k4 := K 4
      have k5 := K 5
      have k6 := K 6
      have k7 := K 7
      have k8 := K 8
      have k9 := K 9
      have k10 := K 10
      have k11 := K 11
      have HB' := HB.out
      refine bodyPost_ret (v := .agg (C12 0 0 0 0 0 0 0 0 0 0 0 0)) (by simp [results, Try.results31, go_sem, k0, k1, k2, k3, k4, k5, k6, k7, k8, k9, k10, k11]) rfl ?_
      exact ⟨rfl, by (repeat' (first | (with_reducible exact Below.refl _ _) | (with_reducible refine bstep (by with_reducible assumption) ?_) | (with_reducible refine Below.alloc ?_ ?_ _) | (with_reducible refine Below.drew ?_) | (with_reducible refine below_drewN ?_ _) | (with_reducible refine Below.setCell ?_ ?_ _) | go_size))⟩
theorem row_both (cs : Array Value) (X : Nat → Int) (hX : Is48 cs X) (s : Int) : ∃ a0 a1 a2 a3 a4 a5 a6 a7 a8 a9 a10 a11 : Int, (∀ w, Calls Try.prog 30 #[.agg cs, .int .i64 s] w fun e w' => e = .returned (.agg (C12 a0 a1 a2 a3 a4 a5 a6 a7 a8 a9 a10 a11)) ∧ Below w.heap.size w w') ∧
    (∀ w, Calls Try.prog 31 #[.agg cs, .int .i64 s] w fun e w' => e = .returned (.agg (C12 a0 a1 a2 a3 a4 a5 a6 a7 a8 a9 a10 a11)) ∧ Below w.heap.size w w') := by
  by_cases h0 : s = 0
  · subst h0; exact ⟨_, _, _, _, _, _, _, _, _, _, _, _, row_0 cs X hX, rrow_0 cs X hX⟩
  by_cases h1 : s = 1
  · subst h1; exact ⟨_, _, _, _, _, _, _, _, _, _, _, _, row_1 cs X hX, rrow_1 cs X hX⟩
  by_cases h2 : s = 2
  · subst h2; exact ⟨_, _, _, _, _, _, _, _, _, _, _, _, row_2 cs X hX, rrow_2 cs X hX⟩
  by_cases h3 : s = 3
  · subst h3; exact ⟨_, _, _, _, _, _, _, _, _, _, _, _, row_3 cs X hX, rrow_3 cs X hX⟩
  have hs0 : 0 < cs.size := by have := hX.1; omega
  exact ⟨_, _, _, _, _, _, _, _, _, _, _, _, row_x cs hs0 s ⟨h0, h1, h2, h3⟩, rrow_x cs hs0 s ⟨h0, h1, h2, h3⟩⟩
end Go.Proofs.Ytdemcleibpgglaa
