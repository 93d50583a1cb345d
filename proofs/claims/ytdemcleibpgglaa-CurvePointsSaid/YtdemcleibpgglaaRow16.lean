/- What curve.Row answers: the points along a side. -/
import Derived.Test.YtdemcleibpgglaaSet
import Derived.Deep.LoopGhost
import Derived.IntWalk
namespace Go.Proofs.Ytdemcleibpgglaa
open Go.RowKit
set_option maxRecDepth 100000
set_option linter.unusedSimpArgs false
set_option linter.unusedVariables false
/-- The cells of sixteen points, told by their numbers. -/
def Is48 (cs : Array Value) (X : Nat → Int) : Prop := cs.size = 48 ∧ ∀ o, o < 48 → cs[o]? = some (.int .i64 (X o))
def RowRel (g B : Nat) (cs q0 q1 q2 q3 q4 : Array Value) (w : World) (k : Nat) (i : Value) (wr : World) : Prop :=
  ((k = 4 ∧ i = .int .i64 0 ∧ 0 ≤ g ∧ (∀ o, wr.cell? ⟨B + 1 + 1, o, none⟩ = q0[o]?)) ∨ (k = 3 ∧ i = .int .i64 1 ∧ 1 ≤ g ∧ (∀ o, wr.cell? ⟨B + 1 + 1, o, none⟩ = q1[o]?)) ∨
   (k = 2 ∧ i = .int .i64 2 ∧ 2 ≤ g ∧ (∀ o, wr.cell? ⟨B + 1 + 1, o, none⟩ = q2[o]?)) ∨ (k = 1 ∧ i = .int .i64 3 ∧ 3 ≤ g ∧ (∀ o, wr.cell? ⟨B + 1 + 1, o, none⟩ = q3[o]?)) ∨
   (k = 0 ∧ i = .int .i64 4 ∧ 4 ≤ g ∧ (∀ o, wr.cell? ⟨B + 1 + 1, o, none⟩ = q4[o]?))) ∧
  (∀ o, wr.cell? ⟨B, o, none⟩ = cs[o]?) ∧ (∀ o, wr.cell? ⟨B + 1, o, none⟩ = (C12 0 0 0 0 0 0 0 0 0 0 0 0)[o]?) ∧ (∀ o, wr.frozen? ⟨B + 1 + 1, o, none⟩ = false) ∧ (∀ o, wr.frozen? ⟨B + 1, o, none⟩ = false) ∧ Below B w wr
set_option maxHeartbeats 4000000 in
theorem row_0 (cs : Array Value) (X : Nat → Int) (h : Is48 cs X) (w : World) :
    Calls Try.prog 30 #[.agg cs, .int .i64 0] w fun e w' => e = .returned (.agg (C12 (X 0) (X 1) (X 2) (X 3) (X 4) (X 5) (X 6) (X 7) (X 8) (X 9) (X 10) (X 11))) ∧ Below w.heap.size w w' := by
  obtain ⟨hs, hx⟩ := h
  have x0 := hx 0 (by omega)
  have x1 := hx 1 (by omega)
  have x2 := hx 2 (by omega)
  have x3 := hx 3 (by omega)
  have x4 := hx 4 (by omega)
  have x5 := hx 5 (by omega)
  have x6 := hx 6 (by omega)
  have x7 := hx 7 (by omega)
  have x8 := hx 8 (by omega)
  have x9 := hx 9 (by omega)
  have x10 := hx 10 (by omega)
  have x11 := hx 11 (by omega)
  clear hx
  have hs0 : 0 < cs.size := by omega
  go_enter Try.func30, Try.ntmps30
  go_wp2_with fail
  go_loopg [8, 19] 4 (fun k _ i wr => RowRel 4 w.heap.size cs (C12 0 0 0 0 0 0 0 0 0 0 0 0) (C12 (X 0) (X 1) (X 2) 0 0 0 0 0 0 0 0 0) (C12 (X 0) (X 1) (X 2) (X 3) (X 4) (X 5) 0 0 0 0 0 0) (C12 (X 0) (X 1) (X 2) (X 3) (X 4) (X 5) (X 6) (X 7) (X 8) 0 0 0) (C12 (X 0) (X 1) (X 2) (X 3) (X 4) (X 5) (X 6) (X 7) (X 8) (X 9) (X 10) (X 11)) w k i wr)
  case atStart => exact ⟨.inl ⟨rfl, rfl, by omega, by (repeat (first | (with_reducible assumption) | (focus ((with_reducible refine new_at ?_ _ _); (repeat (first | (with_reducible rfl) | (with_reducible refine sz1 ?_))); done)) | (with_reducible refine blk_alloc (by simp) _ ?_) | (with_reducible refine blk_drew ?_)))⟩, by (repeat (first | (with_reducible assumption) | (focus ((with_reducible refine new_at ?_ _ _); (repeat (first | (with_reducible rfl) | (with_reducible refine sz1 ?_))); done)) | (with_reducible refine blk_alloc hs0 _ ?_) | (with_reducible refine blk_drew ?_))), by (repeat (first | (with_reducible assumption) | (focus ((with_reducible refine new_at ?_ _ _); (repeat (first | (with_reducible rfl) | (with_reducible refine sz1 ?_))); done)) | (with_reducible refine blk_alloc (by simp) _ ?_) | (with_reducible refine blk_drew ?_))), by (repeat (first | (with_reducible assumption) | (focus ((with_reducible refine fro_new ?_ _ _); (repeat (first | (with_reducible rfl) | (with_reducible refine sz1 ?_))); done)) | ((with_reducible refine fro_more ?_ _ ?_); (repeat (first | (with_reducible assumption) | (focus ((with_reducible refine lt_new ?_); (repeat (first | (with_reducible rfl) | (with_reducible refine sz1 ?_))); done)) | (with_reducible refine lt_here ?_)))))), by (repeat (first | (with_reducible assumption) | (focus ((with_reducible refine fro_new ?_ _ _); (repeat (first | (with_reducible rfl) | (with_reducible refine sz1 ?_))); done)) | ((with_reducible refine fro_more ?_ _ ?_); (repeat (first | (with_reducible assumption) | (focus ((with_reducible refine lt_new ?_); (repeat (first | (with_reducible rfl) | (with_reducible refine sz1 ?_))); done)) | (with_reducible refine lt_here ?_)))))), by (repeat' (first | (with_reducible exact Below.refl _ _) | (with_reducible refine bstep (by with_reducible assumption) ?_) | (with_reducible refine Below.alloc ?_ ?_ _) | (with_reducible refine Below.drew ?_) | (with_reducible refine below_drewN ?_ _) | (with_reducible refine Below.setCell ?_ ?_ _) | go_size))⟩
  case round =>
    obtain ⟨hk, hp, hz, hf, hg, hB⟩ := hrel
    have HB := Lib.hid hB
    have hl : w.heap.size < wr.heap.size := blk_lt hs0 hp
    clear hB
    have n1 : w.heap.size + 1 + 1 ≠ w.heap.size := by omega
    have n2 : w.heap.size + 1 + 1 ≠ w.heap.size + 1 := by omega
    rcases hk with ⟨rfl, rfl, hg', hq⟩ | ⟨rfl, rfl, hg', hq⟩ | ⟨rfl, rfl, hg', hq⟩ | ⟨rfl, rfl, hg', hq⟩ | ⟨rfl, rfl, hg', hq⟩
    · have l1 : w.heap.size + 1 + 1 < wr.heap.size := blk_lt (by simp) hq
      have y0 := (hp 0).trans x0
      have y1 := (hp 1).trans x1
      have y2 := (hp 2).trans x2
      have HP := Lib.hid hp
      clear hp
      go_wp2_with fail
      go_roundg 3
      case measure => omega
      case rel =>
        have HB' := HB.out
        exact ⟨.inr (.inl ⟨rfl, by simp, by omega, st3_blk hq (by simp) (by simp) (by simp) rfl⟩), st3_far n1 HP.out, st3_far n2 hz, fun o => by simp [hf], fun o => by simp [hg], by (repeat' (first | (with_reducible exact Below.refl _ _) | (with_reducible refine bstep (by with_reducible assumption) ?_) | (with_reducible refine Below.alloc ?_ ?_ _) | (with_reducible refine Below.drew ?_) | (with_reducible refine below_drewN ?_ _) | (with_reducible refine Below.setCell ?_ ?_ _) | go_size))⟩
    · have l1 : w.heap.size + 1 + 1 < wr.heap.size := blk_lt (by simp) hq
      have y0 := (hp 3).trans x3
      have y1 := (hp 4).trans x4
      have y2 := (hp 5).trans x5
      have HP := Lib.hid hp
      clear hp
      go_wp2_with fail
      go_roundg 2
      case measure => omega
      case rel =>
        have HB' := HB.out
        exact ⟨.inr (.inr (.inl ⟨rfl, by simp, by omega, st3_blk hq (by simp) (by simp) (by simp) rfl⟩)), st3_far n1 HP.out, st3_far n2 hz, fun o => by simp [hf], fun o => by simp [hg], by (repeat' (first | (with_reducible exact Below.refl _ _) | (with_reducible refine bstep (by with_reducible assumption) ?_) | (with_reducible refine Below.alloc ?_ ?_ _) | (with_reducible refine Below.drew ?_) | (with_reducible refine below_drewN ?_ _) | (with_reducible refine Below.setCell ?_ ?_ _) | go_size))⟩
    · have l1 : w.heap.size + 1 + 1 < wr.heap.size := blk_lt (by simp) hq
      have y0 := (hp 6).trans x6
      have y1 := (hp 7).trans x7
      have y2 := (hp 8).trans x8
      have HP := Lib.hid hp
      clear hp
      go_wp2_with fail
      go_roundg 1
      case measure => omega
      case rel =>
        have HB' := HB.out
        exact ⟨.inr (.inr (.inr (.inl ⟨rfl, by simp, by omega, st3_blk hq (by simp) (by simp) (by simp) rfl⟩))), st3_far n1 HP.out, st3_far n2 hz, fun o => by simp [hf], fun o => by simp [hg], by (repeat' (first | (with_reducible exact Below.refl _ _) | (with_reducible refine bstep (by with_reducible assumption) ?_) | (with_reducible refine Below.alloc ?_ ?_ _) | (with_reducible refine Below.drew ?_) | (with_reducible refine below_drewN ?_ _) | (with_reducible refine Below.setCell ?_ ?_ _) | go_size))⟩
    · have l1 : w.heap.size + 1 + 1 < wr.heap.size := blk_lt (by simp) hq
      have y0 := (hp 9).trans x9
      have y1 := (hp 10).trans x10
      have y2 := (hp 11).trans x11
      have HP := Lib.hid hp
      clear hp
      go_wp2_with fail
      go_roundg 0
      case measure => omega
      case rel =>
        have HB' := HB.out
        exact ⟨.inr (.inr (.inr (.inr (⟨rfl, by simp, by omega, st3_blk hq (by simp) (by simp) (by simp) rfl⟩)))), st3_far n1 HP.out, st3_far n2 hz, fun o => by simp [hf], fun o => by simp [hg], by (repeat' (first | (with_reducible exact Below.refl _ _) | (with_reducible refine bstep (by with_reducible assumption) ?_) | (with_reducible refine Below.alloc ?_ ?_ _) | (with_reducible refine Below.drew ?_) | (with_reducible refine below_drewN ?_ _) | (with_reducible refine Below.setCell ?_ ?_ _) | go_size))⟩
    · have l1 : w.heap.size + 1 + 1 < wr.heap.size := blk_lt (by simp) hq
      have l2 : w.heap.size + 1 < wr.heap.size := blk_lt (by simp) hz
      go_wp2_with fail
      have K := st12_blk hz (by rfl) (.int .i64 (X 0)) (.int .i64 (X 1)) (.int .i64 (X 2)) (.int .i64 (X 3)) (.int .i64 (X 4)) (.int .i64 (X 5)) (.int .i64 (X 6)) (.int .i64 (X 7)) (.int .i64 (X 8)) (.int .i64 (X 9)) (.int .i64 (X 10)) (.int .i64 (X 11))
      have k0 := K 0
      have k1 := K 1
      have k2 := K 2
      have k3 := K 3
      have k4 := K 4
      have k5 := K 5
      have k6 := K 6
      have k7 := K 7
      have k8 := K 8
      have k9 := K 9
      have k10 := K 10
      have k11 := K 11
      have HB' := HB.out
      refine bodyPost_ret (v := .agg (C12 (X 0) (X 1) (X 2) (X 3) (X 4) (X 5) (X 6) (X 7) (X 8) (X 9) (X 10) (X 11))) (by simp [results, Try.results30, go_sem, k0, k1, k2, k3, k4, k5, k6, k7, k8, k9, k10, k11]) rfl ?_
      exact ⟨rfl, by (repeat' (first | (with_reducible exact Below.refl _ _) | (with_reducible refine bstep (by with_reducible assumption) ?_) | (with_reducible refine Below.alloc ?_ ?_ _) | (with_reducible refine Below.drew ?_) | (with_reducible refine below_drewN ?_ _) | (with_reducible refine Below.setCell ?_ ?_ _) | go_size))⟩
set_option maxHeartbeats 4000000 in
theorem row_1 (cs : Array Value) (X : Nat → Int) (h : Is48 cs X) (w : World) :
    Calls Try.prog 30 #[.agg cs, .int .i64 1] w fun e w' => e = .returned (.agg (C12 (X 9) (X 10) (X 11) (X 21) (X 22) (X 23) (X 33) (X 34) (X 35) (X 45) (X 46) (X 47))) ∧ Below w.heap.size w w' := by
  obtain ⟨hs, hx⟩ := h
  have x9 := hx 9 (by omega)
  have x10 := hx 10 (by omega)
  have x11 := hx 11 (by omega)
  have x21 := hx 21 (by omega)
  have x22 := hx 22 (by omega)
  have x23 := hx 23 (by omega)
  have x33 := hx 33 (by omega)
  have x34 := hx 34 (by omega)
  have x35 := hx 35 (by omega)
  have x45 := hx 45 (by omega)
  have x46 := hx 46 (by omega)
  have x47 := hx 47 (by omega)
  clear hx
  have hs0 : 0 < cs.size := by omega
  go_enter Try.func30, Try.ntmps30
  go_wp2_with fail
  go_loopg [8, 19] 4 (fun k _ i wr => RowRel 4 w.heap.size cs (C12 0 0 0 0 0 0 0 0 0 0 0 0) (C12 (X 9) (X 10) (X 11) 0 0 0 0 0 0 0 0 0) (C12 (X 9) (X 10) (X 11) (X 21) (X 22) (X 23) 0 0 0 0 0 0) (C12 (X 9) (X 10) (X 11) (X 21) (X 22) (X 23) (X 33) (X 34) (X 35) 0 0 0) (C12 (X 9) (X 10) (X 11) (X 21) (X 22) (X 23) (X 33) (X 34) (X 35) (X 45) (X 46) (X 47)) w k i wr)
  case atStart => exact ⟨.inl ⟨rfl, rfl, by omega, by (repeat (first | (with_reducible assumption) | (focus ((with_reducible refine new_at ?_ _ _); (repeat (first | (with_reducible rfl) | (with_reducible refine sz1 ?_))); done)) | (with_reducible refine blk_alloc (by simp) _ ?_) | (with_reducible refine blk_drew ?_)))⟩, by (repeat (first | (with_reducible assumption) | (focus ((with_reducible refine new_at ?_ _ _); (repeat (first | (with_reducible rfl) | (with_reducible refine sz1 ?_))); done)) | (with_reducible refine blk_alloc hs0 _ ?_) | (with_reducible refine blk_drew ?_))), by (repeat (first | (with_reducible assumption) | (focus ((with_reducible refine new_at ?_ _ _); (repeat (first | (with_reducible rfl) | (with_reducible refine sz1 ?_))); done)) | (with_reducible refine blk_alloc (by simp) _ ?_) | (with_reducible refine blk_drew ?_))), by (repeat (first | (with_reducible assumption) | (focus ((with_reducible refine fro_new ?_ _ _); (repeat (first | (with_reducible rfl) | (with_reducible refine sz1 ?_))); done)) | ((with_reducible refine fro_more ?_ _ ?_); (repeat (first | (with_reducible assumption) | (focus ((with_reducible refine lt_new ?_); (repeat (first | (with_reducible rfl) | (with_reducible refine sz1 ?_))); done)) | (with_reducible refine lt_here ?_)))))), by (repeat (first | (with_reducible assumption) | (focus ((with_reducible refine fro_new ?_ _ _); (repeat (first | (with_reducible rfl) | (with_reducible refine sz1 ?_))); done)) | ((with_reducible refine fro_more ?_ _ ?_); (repeat (first | (with_reducible assumption) | (focus ((with_reducible refine lt_new ?_); (repeat (first | (with_reducible rfl) | (with_reducible refine sz1 ?_))); done)) | (with_reducible refine lt_here ?_)))))), by (repeat' (first | (with_reducible exact Below.refl _ _) | (with_reducible refine bstep (by with_reducible assumption) ?_) | (with_reducible refine Below.alloc ?_ ?_ _) | (with_reducible refine Below.drew ?_) | (with_reducible refine below_drewN ?_ _) | (with_reducible refine Below.setCell ?_ ?_ _) | go_size))⟩
  case round =>
    obtain ⟨hk, hp, hz, hf, hg, hB⟩ := hrel
    have HB := Lib.hid hB
    have hl : w.heap.size < wr.heap.size := blk_lt hs0 hp
    clear hB
    have n1 : w.heap.size + 1 + 1 ≠ w.heap.size := by omega
    have n2 : w.heap.size + 1 + 1 ≠ w.heap.size + 1 := by omega
    rcases hk with ⟨rfl, rfl, hg', hq⟩ | ⟨rfl, rfl, hg', hq⟩ | ⟨rfl, rfl, hg', hq⟩ | ⟨rfl, rfl, hg', hq⟩ | ⟨rfl, rfl, hg', hq⟩
    · have l1 : w.heap.size + 1 + 1 < wr.heap.size := blk_lt (by simp) hq
      have y0 := (hp 9).trans x9
      have y1 := (hp 10).trans x10
      have y2 := (hp 11).trans x11
      have HP := Lib.hid hp
      clear hp
      go_wp2_with fail
      go_roundg 3
      case measure => omega
      case rel =>
        have HB' := HB.out
        exact ⟨.inr (.inl ⟨rfl, by simp, by omega, st3_blk hq (by simp) (by simp) (by simp) rfl⟩), st3_far n1 HP.out, st3_far n2 hz, fun o => by simp [hf], fun o => by simp [hg], by (repeat' (first | (with_reducible exact Below.refl _ _) | (with_reducible refine bstep (by with_reducible assumption) ?_) | (with_reducible refine Below.alloc ?_ ?_ _) | (with_reducible refine Below.drew ?_) | (with_reducible refine below_drewN ?_ _) | (with_reducible refine Below.setCell ?_ ?_ _) | go_size))⟩
    · have l1 : w.heap.size + 1 + 1 < wr.heap.size := blk_lt (by simp) hq
      have y0 := (hp 21).trans x21
      have y1 := (hp 22).trans x22
      have y2 := (hp 23).trans x23
      have HP := Lib.hid hp
      clear hp
      go_wp2_with fail
      go_roundg 2
      case measure => omega
      case rel =>
        have HB' := HB.out
        exact ⟨.inr (.inr (.inl ⟨rfl, by simp, by omega, st3_blk hq (by simp) (by simp) (by simp) rfl⟩)), st3_far n1 HP.out, st3_far n2 hz, fun o => by simp [hf], fun o => by simp [hg], by (repeat' (first | (with_reducible exact Below.refl _ _) | (with_reducible refine bstep (by with_reducible assumption) ?_) | (with_reducible refine Below.alloc ?_ ?_ _) | (with_reducible refine Below.drew ?_) | (with_reducible refine below_drewN ?_ _) | (with_reducible refine Below.setCell ?_ ?_ _) | go_size))⟩
    · have l1 : w.heap.size + 1 + 1 < wr.heap.size := blk_lt (by simp) hq
      have y0 := (hp 33).trans x33
      have y1 := (hp 34).trans x34
      have y2 := (hp 35).trans x35
      have HP := Lib.hid hp
      clear hp
      go_wp2_with fail
      go_roundg 1
      case measure => omega
      case rel =>
        have HB' := HB.out
        exact ⟨.inr (.inr (.inr (.inl ⟨rfl, by simp, by omega, st3_blk hq (by simp) (by simp) (by simp) rfl⟩))), st3_far n1 HP.out, st3_far n2 hz, fun o => by simp [hf], fun o => by simp [hg], by (repeat' (first | (with_reducible exact Below.refl _ _) | (with_reducible refine bstep (by with_reducible assumption) ?_) | (with_reducible refine Below.alloc ?_ ?_ _) | (with_reducible refine Below.drew ?_) | (with_reducible refine below_drewN ?_ _) | (with_reducible refine Below.setCell ?_ ?_ _) | go_size))⟩
    · have l1 : w.heap.size + 1 + 1 < wr.heap.size := blk_lt (by simp) hq
      have y0 := (hp 45).trans x45
      have y1 := (hp 46).trans x46
      have y2 := (hp 47).trans x47
      have HP := Lib.hid hp
      clear hp
      go_wp2_with fail
      go_roundg 0
      case measure => omega
      case rel =>
        have HB' := HB.out
        exact ⟨.inr (.inr (.inr (.inr (⟨rfl, by simp, by omega, st3_blk hq (by simp) (by simp) (by simp) rfl⟩)))), st3_far n1 HP.out, st3_far n2 hz, fun o => by simp [hf], fun o => by simp [hg], by (repeat' (first | (with_reducible exact Below.refl _ _) | (with_reducible refine bstep (by with_reducible assumption) ?_) | (with_reducible refine Below.alloc ?_ ?_ _) | (with_reducible refine Below.drew ?_) | (with_reducible refine below_drewN ?_ _) | (with_reducible refine Below.setCell ?_ ?_ _) | go_size))⟩
    · have l1 : w.heap.size + 1 + 1 < wr.heap.size := blk_lt (by simp) hq
      have l2 : w.heap.size + 1 < wr.heap.size := blk_lt (by simp) hz
      go_wp2_with fail
      have K := st12_blk hz (by rfl) (.int .i64 (X 9)) (.int .i64 (X 10)) (.int .i64 (X 11)) (.int .i64 (X 21)) (.int .i64 (X 22)) (.int .i64 (X 23)) (.int .i64 (X 33)) (.int .i64 (X 34)) (.int .i64 (X 35)) (.int .i64 (X 45)) (.int .i64 (X 46)) (.int .i64 (X 47))
      have k0 := K 0
      have k1 := K 1
      have k2 := K 2
      have k3 := K 3
      have k4 := K 4
      have k5 := K 5
      have k6 := K 6
      have k7 := K 7
      have k8 := K 8
      have k9 := K 9
      have k10 := K 10
      have k11 := K 11
      have HB' := HB.out
      refine bodyPost_ret (v := .agg (C12 (X 9) (X 10) (X 11) (X 21) (X 22) (X 23) (X 33) (X 34) (X 35) (X 45) (X 46) (X 47))) (by simp [results, Try.results30, go_sem, k0, k1, k2, k3, k4, k5, k6, k7, k8, k9, k10, k11]) rfl ?_
      exact ⟨rfl, by (repeat' (first | (with_reducible exact Below.refl _ _) | (with_reducible refine bstep (by with_reducible assumption) ?_) | (with_reducible refine Below.alloc ?_ ?_ _) | (with_reducible refine Below.drew ?_) | (with_reducible refine below_drewN ?_ _) | (with_reducible refine Below.setCell ?_ ?_ _) | go_size))⟩
set_option maxHeartbeats 4000000 in
theorem row_2 (cs : Array Value) (X : Nat → Int) (h : Is48 cs X) (w : World) :
    Calls Try.prog 30 #[.agg cs, .int .i64 2] w fun e w' => e = .returned (.agg (C12 (X 45) (X 46) (X 47) (X 42) (X 43) (X 44) (X 39) (X 40) (X 41) (X 36) (X 37) (X 38))) ∧ Below w.heap.size w w' := by
  obtain ⟨hs, hx⟩ := h
  have x45 := hx 45 (by omega)
  have x46 := hx 46 (by omega)
  have x47 := hx 47 (by omega)
  have x42 := hx 42 (by omega)
  have x43 := hx 43 (by omega)
  have x44 := hx 44 (by omega)
  have x39 := hx 39 (by omega)
  have x40 := hx 40 (by omega)
  have x41 := hx 41 (by omega)
  have x36 := hx 36 (by omega)
  have x37 := hx 37 (by omega)
  have x38 := hx 38 (by omega)
  clear hx
  have hs0 : 0 < cs.size := by omega
  go_enter Try.func30, Try.ntmps30
  go_wp2_with fail
  go_loopg [8, 19] 4 (fun k _ i wr => RowRel 4 w.heap.size cs (C12 0 0 0 0 0 0 0 0 0 0 0 0) (C12 (X 45) (X 46) (X 47) 0 0 0 0 0 0 0 0 0) (C12 (X 45) (X 46) (X 47) (X 42) (X 43) (X 44) 0 0 0 0 0 0) (C12 (X 45) (X 46) (X 47) (X 42) (X 43) (X 44) (X 39) (X 40) (X 41) 0 0 0) (C12 (X 45) (X 46) (X 47) (X 42) (X 43) (X 44) (X 39) (X 40) (X 41) (X 36) (X 37) (X 38)) w k i wr)
  case atStart => exact ⟨.inl ⟨rfl, rfl, by omega, by (repeat (first | (with_reducible assumption) | (focus ((with_reducible refine new_at ?_ _ _); (repeat (first | (with_reducible rfl) | (with_reducible refine sz1 ?_))); done)) | (with_reducible refine blk_alloc (by simp) _ ?_) | (with_reducible refine blk_drew ?_)))⟩, by (repeat (first | (with_reducible assumption) | (focus ((with_reducible refine new_at ?_ _ _); (repeat (first | (with_reducible rfl) | (with_reducible refine sz1 ?_))); done)) | (with_reducible refine blk_alloc hs0 _ ?_) | (with_reducible refine blk_drew ?_))), by (repeat (first | (with_reducible assumption) | (focus ((with_reducible refine new_at ?_ _ _); (repeat (first | (with_reducible rfl) | (with_reducible refine sz1 ?_))); done)) | (with_reducible refine blk_alloc (by simp) _ ?_) | (with_reducible refine blk_drew ?_))), by (repeat (first | (with_reducible assumption) | (focus ((with_reducible refine fro_new ?_ _ _); (repeat (first | (with_reducible rfl) | (with_reducible refine sz1 ?_))); done)) | ((with_reducible refine fro_more ?_ _ ?_); (repeat (first | (with_reducible assumption) | (focus ((with_reducible refine lt_new ?_); (repeat (first | (with_reducible rfl) | (with_reducible refine sz1 ?_))); done)) | (with_reducible refine lt_here ?_)))))), by (repeat (first | (with_reducible assumption) | (focus ((with_reducible refine fro_new ?_ _ _); (repeat (first | (with_reducible rfl) | (with_reducible refine sz1 ?_))); done)) | ((with_reducible refine fro_more ?_ _ ?_); (repeat (first | (with_reducible assumption) | (focus ((with_reducible refine lt_new ?_); (repeat (first | (with_reducible rfl) | (with_reducible refine sz1 ?_))); done)) | (with_reducible refine lt_here ?_)))))), by (repeat' (first | (with_reducible exact Below.refl _ _) | (with_reducible refine bstep (by with_reducible assumption) ?_) | (with_reducible refine Below.alloc ?_ ?_ _) | (with_reducible refine Below.drew ?_) | (with_reducible refine below_drewN ?_ _) | (with_reducible refine Below.setCell ?_ ?_ _) | go_size))⟩
  case round =>
    obtain ⟨hk, hp, hz, hf, hg, hB⟩ := hrel
    have HB := Lib.hid hB
    have hl : w.heap.size < wr.heap.size := blk_lt hs0 hp
    clear hB
    have n1 : w.heap.size + 1 + 1 ≠ w.heap.size := by omega
    have n2 : w.heap.size + 1 + 1 ≠ w.heap.size + 1 := by omega
    rcases hk with ⟨rfl, rfl, hg', hq⟩ | ⟨rfl, rfl, hg', hq⟩ | ⟨rfl, rfl, hg', hq⟩ | ⟨rfl, rfl, hg', hq⟩ | ⟨rfl, rfl, hg', hq⟩
    · have l1 : w.heap.size + 1 + 1 < wr.heap.size := blk_lt (by simp) hq
      have y0 := (hp 45).trans x45
      have y1 := (hp 46).trans x46
      have y2 := (hp 47).trans x47
      have HP := Lib.hid hp
      clear hp
      go_wp2_with fail
      go_roundg 3
      case measure => omega
      case rel =>
        have HB' := HB.out
        exact ⟨.inr (.inl ⟨rfl, by simp, by omega, st3_blk hq (by simp) (by simp) (by simp) rfl⟩), st3_far n1 HP.out, st3_far n2 hz, fun o => by simp [hf], fun o => by simp [hg], by (repeat' (first | (with_reducible exact Below.refl _ _) | (with_reducible refine bstep (by with_reducible assumption) ?_) | (with_reducible refine Below.alloc ?_ ?_ _) | (with_reducible refine Below.drew ?_) | (with_reducible refine below_drewN ?_ _) | (with_reducible refine Below.setCell ?_ ?_ _) | go_size))⟩
    · have l1 : w.heap.size + 1 + 1 < wr.heap.size := blk_lt (by simp) hq
      have y0 := (hp 42).trans x42
      have y1 := (hp 43).trans x43
      have y2 := (hp 44).trans x44
      have HP := Lib.hid hp
      clear hp
      go_wp2_with fail
      go_roundg 2
      case measure => omega
      case rel =>
        have HB' := HB.out
        exact ⟨.inr (.inr (.inl ⟨rfl, by simp, by omega, st3_blk hq (by simp) (by simp) (by simp) rfl⟩)), st3_far n1 HP.out, st3_far n2 hz, fun o => by simp [hf], fun o => by simp [hg], by (repeat' (first | (with_reducible exact Below.refl _ _) | (with_reducible refine bstep (by with_reducible assumption) ?_) | (with_reducible refine Below.alloc ?_ ?_ _) | (with_reducible refine Below.drew ?_) | (with_reducible refine below_drewN ?_ _) | (with_reducible refine Below.setCell ?_ ?_ _) | go_size))⟩
    · have l1 : w.heap.size + 1 + 1 < wr.heap.size := blk_lt (by simp) hq
      have y0 := (hp 39).trans x39
      have y1 := (hp 40).trans x40
      have y2 := (hp 41).trans x41
      have HP := Lib.hid hp
      clear hp
      go_wp2_with fail
      go_roundg 1
      case measure => omega
      case rel =>
        have HB' := HB.out
        exact ⟨.inr (.inr (.inr (.inl ⟨rfl, by simp, by omega, st3_blk hq (by simp) (by simp) (by simp) rfl⟩))), st3_far n1 HP.out, st3_far n2 hz, fun o => by simp [hf], fun o => by simp [hg], by (repeat' (first | (with_reducible exact Below.refl _ _) | (with_reducible refine bstep (by with_reducible assumption) ?_) | (with_reducible refine Below.alloc ?_ ?_ _) | (with_reducible refine Below.drew ?_) | (with_reducible refine below_drewN ?_ _) | (with_reducible refine Below.setCell ?_ ?_ _) | go_size))⟩
    · have l1 : w.heap.size + 1 + 1 < wr.heap.size := blk_lt (by simp) hq
      have y0 := (hp 36).trans x36
      have y1 := (hp 37).trans x37
      have y2 := (hp 38).trans x38
      have HP := Lib.hid hp
      clear hp
      go_wp2_with fail
      go_roundg 0
      case measure => omega
      case rel =>
        have HB' := HB.out
        exact ⟨.inr (.inr (.inr (.inr (⟨rfl, by simp, by omega, st3_blk hq (by simp) (by simp) (by simp) rfl⟩)))), st3_far n1 HP.out, st3_far n2 hz, fun o => by simp [hf], fun o => by simp [hg], by (repeat' (first | (with_reducible exact Below.refl _ _) | (with_reducible refine bstep (by with_reducible assumption) ?_) | (with_reducible refine Below.alloc ?_ ?_ _) | (with_reducible refine Below.drew ?_) | (with_reducible refine below_drewN ?_ _) | (with_reducible refine Below.setCell ?_ ?_ _) | go_size))⟩
    · have l1 : w.heap.size + 1 + 1 < wr.heap.size := blk_lt (by simp) hq
      have l2 : w.heap.size + 1 < wr.heap.size := blk_lt (by simp) hz
      go_wp2_with fail
      have K := st12_blk hz (by rfl) (.int .i64 (X 45)) (.int .i64 (X 46)) (.int .i64 (X 47)) (.int .i64 (X 42)) (.int .i64 (X 43)) (.int .i64 (X 44)) (.int .i64 (X 39)) (.int .i64 (X 40)) (.int .i64 (X 41)) (.int .i64 (X 36)) (.int .i64 (X 37)) (.int .i64 (X 38))
      have k0 := K 0
      have k1 := K 1
      have k2 := K 2
      have k3 := K 3
      have k4 := K 4
      have k5 := K 5
      have k6 := K 6
      have k7 := K 7
      have k8 := K 8
      have k9 := K 9
      have k10 := K 10
      have k11 := K 11
      have HB' := HB.out
      refine bodyPost_ret (v := .agg (C12 (X 45) (X 46) (X 47) (X 42) (X 43) (X 44) (X 39) (X 40) (X 41) (X 36) (X 37) (X 38))) (by simp [results, Try.results30, go_sem, k0, k1, k2, k3, k4, k5, k6, k7, k8, k9, k10, k11]) rfl ?_
      exact ⟨rfl, by (repeat' (first | (with_reducible exact Below.refl _ _) | (with_reducible refine bstep (by with_reducible assumption) ?_) | (with_reducible refine Below.alloc ?_ ?_ _) | (with_reducible refine Below.drew ?_) | (with_reducible refine below_drewN ?_ _) | (with_reducible refine Below.setCell ?_ ?_ _) | go_size))⟩
set_option maxHeartbeats 4000000 in
theorem row_3 (cs : Array Value) (X : Nat → Int) (h : Is48 cs X) (w : World) :
    Calls Try.prog 30 #[.agg cs, .int .i64 3] w fun e w' => e = .returned (.agg (C12 (X 36) (X 37) (X 38) (X 24) (X 25) (X 26) (X 12) (X 13) (X 14) (X 0) (X 1) (X 2))) ∧ Below w.heap.size w w' := by
  obtain ⟨hs, hx⟩ := h
  have x36 := hx 36 (by omega)
  have x37 := hx 37 (by omega)
  have x38 := hx 38 (by omega)
  have x24 := hx 24 (by omega)
  have x25 := hx 25 (by omega)
  have x26 := hx 26 (by omega)
  have x12 := hx 12 (by omega)
  have x13 := hx 13 (by omega)
  have x14 := hx 14 (by omega)
  have x0 := hx 0 (by omega)
  have x1 := hx 1 (by omega)
  have x2 := hx 2 (by omega)
  clear hx
  have hs0 : 0 < cs.size := by omega
  go_enter Try.func30, Try.ntmps30
  go_wp2_with fail
  go_loopg [8, 19] 4 (fun k _ i wr => RowRel 4 w.heap.size cs (C12 0 0 0 0 0 0 0 0 0 0 0 0) (C12 (X 36) (X 37) (X 38) 0 0 0 0 0 0 0 0 0) (C12 (X 36) (X 37) (X 38) (X 24) (X 25) (X 26) 0 0 0 0 0 0) (C12 (X 36) (X 37) (X 38) (X 24) (X 25) (X 26) (X 12) (X 13) (X 14) 0 0 0) (C12 (X 36) (X 37) (X 38) (X 24) (X 25) (X 26) (X 12) (X 13) (X 14) (X 0) (X 1) (X 2)) w k i wr)
  case atStart => exact ⟨.inl ⟨rfl, rfl, by omega, by (repeat (first | (with_reducible assumption) | (focus ((with_reducible refine new_at ?_ _ _); (repeat (first | (with_reducible rfl) | (with_reducible refine sz1 ?_))); done)) | (with_reducible refine blk_alloc (by simp) _ ?_) | (with_reducible refine blk_drew ?_)))⟩, by (repeat (first | (with_reducible assumption) | (focus ((with_reducible refine new_at ?_ _ _); (repeat (first | (with_reducible rfl) | (with_reducible refine sz1 ?_))); done)) | (with_reducible refine blk_alloc hs0 _ ?_) | (with_reducible refine blk_drew ?_))), by (repeat (first | (with_reducible assumption) | (focus ((with_reducible refine new_at ?_ _ _); (repeat (first | (with_reducible rfl) | (with_reducible refine sz1 ?_))); done)) | (with_reducible refine blk_alloc (by simp) _ ?_) | (with_reducible refine blk_drew ?_))), by (repeat (first | (with_reducible assumption) | (focus ((with_reducible refine fro_new ?_ _ _); (repeat (first | (with_reducible rfl) | (with_reducible refine sz1 ?_))); done)) | ((with_reducible refine fro_more ?_ _ ?_); (repeat (first | (with_reducible assumption) | (focus ((with_reducible refine lt_new ?_); (repeat (first | (with_reducible rfl) | (with_reducible refine sz1 ?_))); done)) | (with_reducible refine lt_here ?_)))))), by (repeat (first | (with_reducible assumption) | (focus ((with_reducible refine fro_new ?_ _ _); (repeat (first | (with_reducible rfl) | (with_reducible refine sz1 ?_))); done)) | ((with_reducible refine fro_more ?_ _ ?_); (repeat (first | (with_reducible assumption) | (focus ((with_reducible refine lt_new ?_); (repeat (first | (with_reducible rfl) | (with_reducible refine sz1 ?_))); done)) | (with_reducible refine lt_here ?_)))))), by (repeat' (first | (with_reducible exact Below.refl _ _) | (with_reducible refine bstep (by with_reducible assumption) ?_) | (with_reducible refine Below.alloc ?_ ?_ _) | (with_reducible refine Below.drew ?_) | (with_reducible refine below_drewN ?_ _) | (with_reducible refine Below.setCell ?_ ?_ _) | go_size))⟩
  case round =>
    obtain ⟨hk, hp, hz, hf, hg, hB⟩ := hrel
    have HB := Lib.hid hB
    have hl : w.heap.size < wr.heap.size := blk_lt hs0 hp
    clear hB
    have n1 : w.heap.size + 1 + 1 ≠ w.heap.size := by omega
    have n2 : w.heap.size + 1 + 1 ≠ w.heap.size + 1 := by omega
    rcases hk with ⟨rfl, rfl, hg', hq⟩ | ⟨rfl, rfl, hg', hq⟩ | ⟨rfl, rfl, hg', hq⟩ | ⟨rfl, rfl, hg', hq⟩ | ⟨rfl, rfl, hg', hq⟩
    · have l1 : w.heap.size + 1 + 1 < wr.heap.size := blk_lt (by simp) hq
      have y0 := (hp 36).trans x36
      have y1 := (hp 37).trans x37
      have y2 := (hp 38).trans x38
      have HP := Lib.hid hp
      clear hp
      go_wp2_with fail
      go_roundg 3
      case measure => omega
      case rel =>
        have HB' := HB.out
        exact ⟨.inr (.inl ⟨rfl, by simp, by omega, st3_blk hq (by simp) (by simp) (by simp) rfl⟩), st3_far n1 HP.out, st3_far n2 hz, fun o => by simp [hf], fun o => by simp [hg], by (repeat' (first | (with_reducible exact Below.refl _ _) | (with_reducible refine bstep (by with_reducible assumption) ?_) | (with_reducible refine Below.alloc ?_ ?_ _) | (with_reducible refine Below.drew ?_) | (with_reducible refine below_drewN ?_ _) | (with_reducible refine Below.setCell ?_ ?_ _) | go_size))⟩
    · have l1 : w.heap.size + 1 + 1 < wr.heap.size := blk_lt (by simp) hq
      have y0 := (hp 24).trans x24
      have y1 := (hp 25).trans x25
      have y2 := (hp 26).trans x26
      have HP := Lib.hid hp
      clear hp
      go_wp2_with fail
      go_roundg 2
      case measure => omega
      case rel =>
        have HB' := HB.out
        exact ⟨.inr (.inr (.inl ⟨rfl, by simp, by omega, st3_blk hq (by simp) (by simp) (by simp) rfl⟩)), st3_far n1 HP.out, st3_far n2 hz, fun o => by simp [hf], fun o => by simp [hg], by (repeat' (first | (with_reducible exact Below.refl _ _) | (with_reducible refine bstep (by with_reducible assumption) ?_) | (with_reducible refine Below.alloc ?_ ?_ _) | (with_reducible refine Below.drew ?_) | (with_reducible refine below_drewN ?_ _) | (with_reducible refine Below.setCell ?_ ?_ _) | go_size))⟩
    · have l1 : w.heap.size + 1 + 1 < wr.heap.size := blk_lt (by simp) hq
      have y0 := (hp 12).trans x12
      have y1 := (hp 13).trans x13
      have y2 := (hp 14).trans x14
      have HP := Lib.hid hp
      clear hp
      go_wp2_with fail
      go_roundg 1
      case measure => omega
      case rel =>
        have HB' := HB.out
        exact ⟨.inr (.inr (.inr (.inl ⟨rfl, by simp, by omega, st3_blk hq (by simp) (by simp) (by simp) rfl⟩))), st3_far n1 HP.out, st3_far n2 hz, fun o => by simp [hf], fun o => by simp [hg], by (repeat' (first | (with_reducible exact Below.refl _ _) | (with_reducible refine bstep (by with_reducible assumption) ?_) | (with_reducible refine Below.alloc ?_ ?_ _) | (with_reducible refine Below.drew ?_) | (with_reducible refine below_drewN ?_ _) | (with_reducible refine Below.setCell ?_ ?_ _) | go_size))⟩
    · have l1 : w.heap.size + 1 + 1 < wr.heap.size := blk_lt (by simp) hq
      have y0 := (hp 0).trans x0
      have y1 := (hp 1).trans x1
      have y2 := (hp 2).trans x2
      have HP := Lib.hid hp
      clear hp
      go_wp2_with fail
      go_roundg 0
      case measure => omega
      case rel =>
        have HB' := HB.out
        exact ⟨.inr (.inr (.inr (.inr (⟨rfl, by simp, by omega, st3_blk hq (by simp) (by simp) (by simp) rfl⟩)))), st3_far n1 HP.out, st3_far n2 hz, fun o => by simp [hf], fun o => by simp [hg], by (repeat' (first | (with_reducible exact Below.refl _ _) | (with_reducible refine bstep (by with_reducible assumption) ?_) | (with_reducible refine Below.alloc ?_ ?_ _) | (with_reducible refine Below.drew ?_) | (with_reducible refine below_drewN ?_ _) | (with_reducible refine Below.setCell ?_ ?_ _) | go_size))⟩
    · have l1 : w.heap.size + 1 + 1 < wr.heap.size := blk_lt (by simp) hq
      have l2 : w.heap.size + 1 < wr.heap.size := blk_lt (by simp) hz
      go_wp2_with fail
      have K := st12_blk hz (by rfl) (.int .i64 (X 36)) (.int .i64 (X 37)) (.int .i64 (X 38)) (.int .i64 (X 24)) (.int .i64 (X 25)) (.int .i64 (X 26)) (.int .i64 (X 12)) (.int .i64 (X 13)) (.int .i64 (X 14)) (.int .i64 (X 0)) (.int .i64 (X 1)) (.int .i64 (X 2))
      have k0 := K 0
      have k1 := K 1
      have k2 := K 2
      have k3 := K 3
      have k4 := K 4
      have k5 := K 5
      have k6 := K 6
      have k7 := K 7
      have k8 := K 8
      have k9 := K 9
      have k10 := K 10
      have k11 := K 11
      have HB' := HB.out
      refine bodyPost_ret (v := .agg (C12 (X 36) (X 37) (X 38) (X 24) (X 25) (X 26) (X 12) (X 13) (X 14) (X 0) (X 1) (X 2))) (by simp [results, Try.results30, go_sem, k0, k1, k2, k3, k4, k5, k6, k7, k8, k9, k10, k11]) rfl ?_
      exact ⟨rfl, by (repeat' (first | (with_reducible exact Below.refl _ _) | (with_reducible refine bstep (by with_reducible assumption) ?_) | (with_reducible refine Below.alloc ?_ ?_ _) | (with_reducible refine Below.drew ?_) | (with_reducible refine below_drewN ?_ _) | (with_reducible refine Below.setCell ?_ ?_ _) | go_size))⟩
end Go.Proofs.Ytdemcleibpgglaa
