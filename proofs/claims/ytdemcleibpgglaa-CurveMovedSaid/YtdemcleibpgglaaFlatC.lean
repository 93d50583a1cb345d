/- The law on flat curves, walked: for all points and numbers of 64 bits it answers true. -/
import Derived.Test.YtdemcleibpgglaaBack
import Derived.Test.YtdemcleibpgglaaSet
namespace Go.Proofs.Ytdemcleibpgglaa
open Go.RowKit
set_option maxRecDepth 100000
set_option linter.unusedSimpArgs false
set_option linter.unusedVariables false
def FlRel (g B : Nat) (c0 c1 c2 c3 : Array Value) (w : World) (k : Nat) (i : Value) (wr : World) : Prop :=
  ((k = 3 ∧ i = .int .i64 1 ∧ 0 ≤ g ∧ (∀ o, wr.cell? ⟨B, o, none⟩ = c0[o]?)) ∨ (k = 2 ∧ i = .int .i64 2 ∧ 1 ≤ g ∧ (∀ o, wr.cell? ⟨B, o, none⟩ = c1[o]?)) ∨ (k = 1 ∧ i = .int .i64 3 ∧ 2 ≤ g ∧ (∀ o, wr.cell? ⟨B, o, none⟩ = c2[o]?)) ∨ (k = 0 ∧ i = .int .i64 4 ∧ 3 ≤ g ∧ (∀ o, wr.cell? ⟨B, o, none⟩ = c3[o]?))) ∧
  (∀ o, wr.frozen? ⟨B, o, none⟩ = false) ∧ Below B w wr
theorem cubv_one (a i n : Int) (h : 1 ≤ n) : cubv a a a a i n = a := by
  have e : a * wt0 i n + a * wt1 i n + a * wt2 i n + a * wt3 i n = a * (n * n * n) := by rw [← wt_all i n]; grind
  rw [cubv, e]
  exact rnd_mul _ _ (by have := cube_pos h; omega)
theorem flat_facts (x0 y0 z0 m1 y1 m2 y2 m3 y3 i n : Int) (h1 : x0 ≤ m1) (h2 : m1 ≤ m2) (h3 : m2 ≤ m3) (hn : I64 n) : ∃ (ok is : Bool) (p q r p2 q2 r2 : Int),
    (∀ w, Calls Try.prog 17 #[.agg (C12 x0 y0 z0 m1 y1 z0 m2 y2 z0 m3 y3 z0), .int .i64 i, .int .i64 n] w fun e w' => e = .returned (.tuple #[V3 p q r, .bool ok]) ∧ Below w.heap.size w w') ∧
    (∀ w, Calls Try.prog 17 #[.agg (C12 x0 y0 z0 m1 y1 z0 m2 y2 z0 m3 y3 z0), .int .i64 (wrap64 (i + 1)), .int .i64 n] w fun e w' => e = .returned (.tuple #[V3 p2 q2 r2, .bool is]) ∧ Below w.heap.size w w') ∧
    (ok = true → i < n → is = true ∧ r = z0 ∧ r2 = z0 ∧ p ≤ p2) := by
  refine ⟨_, _, _, _, _, _, _, _, cubic_is x0 y0 z0 m1 y1 z0 m2 y2 z0 m3 y3 z0 i n _ _ _ _ rfl rfl rfl rfl, cubic_is x0 y0 z0 m1 y1 z0 m2 y2 z0 m3 y3 z0 (wrap64 (i + 1)) n _ _ _ _ rfl rfl rfl rfl, fun h hi => ?_⟩
  rw [h]
  simp only [okC, Bool.and_eq_true] at h
  obtain ⟨⟨⟨⟨ht, a0⟩, a1⟩, a2⟩, a3⟩ := h
  rw [there_iff] at ht
  have e : wrap64 (i + 1) = i + 1 := w64 (by omega) (by omega)
  have hk : okC x0 y0 z0 m1 y1 z0 m2 y2 z0 m3 y3 z0 (wrap64 (i + 1)) n = true := by
    rw [e]; simp only [okC, Bool.and_eq_true]; exact ⟨⟨⟨⟨by rw [there_iff]; omega, a0⟩, a1⟩, a2⟩, a3⟩
  rw [hk, e]
  simp only [cub, if_true]
  refine ⟨trivial, cubv_one _ _ _ ht.1, cubv_one _ _ _ ht.1, ?_⟩
  exact rnd_mono _ _ _ (by have := cube_pos ht.1; omega) (sum_rises ht.2.2.1 (by omega) h1 h2 h3)
set_option maxHeartbeats 8000000 in
theorem curveFlat_flat (x0 y0 z0 x1 y1 z1 x2 y2 z2 x3 y3 z3 i n : Int) (hi : I64 i) (hn : I64 n) (w : World) :
    Calls Try.prog 5 #[.agg (C12 x0 y0 z0 x1 y1 z1 x2 y2 z2 x3 y3 z3), .int .i64 i, .int .i64 n] w fun e w' => e = .returned (.bool true) ∧ Below w.heap.size w w' := by
  obtain ⟨m1, e1⟩ : ∃ m, mx x1 x0 = m := ⟨_, rfl⟩
  obtain ⟨m2, e2⟩ : ∃ m, mx x2 m1 = m := ⟨_, rfl⟩
  obtain ⟨m3, e3⟩ : ∃ m, mx x3 m2 = m := ⟨_, rfl⟩
  have h1 : x0 ≤ m1 := by rw [← e1]; unfold mx; split <;> omega
  have h2 : m1 ≤ m2 := by rw [← e2]; unfold mx; split <;> omega
  have h3 : m2 ≤ m3 := by rw [← e3]; unfold mx; split <;> omega
  obtain ⟨ok, is, p, q, r, p2, q2, r2, K, L, H⟩ := flat_facts x0 y0 z0 m1 y1 m2 y2 m3 y3 i n h1 h2 h3 hn
  have K := Lib.hid K
  have L := Lib.hid L
  have HH := Lib.hid H
  clear h1 h2 h3 H hi hn
  go_enter Try.func5, Try.ntmps5
  go_wp2_with (go_at_call 16; ((with_reducible refine (alive11_any _).mono ?_); rintro e w1 ⟨rfl, hb1⟩; have A1 : ∀ o, w1.cell? ⟨w.heap.size, o, none⟩ = (C12 x0 y0 z0 x1 y1 z1 x2 y2 z2 x3 y3 z3)[o]? := blk_later (by simp) hb1 (by (repeat (first | (with_reducible assumption) | (focus ((with_reducible refine new_at ?_ _ _); (repeat (first | (with_reducible rfl) | (with_reducible refine sz1 ?_))); done)) | (with_reducible refine blk_alloc (by simp) _ ?_) | (with_reducible refine blk_drew ?_)))); have F1 : ∀ o, w1.frozen? ⟨w.heap.size, o, none⟩ = false := fro_call hb1 (by (repeat (first | (with_reducible assumption) | (focus ((with_reducible refine fro_new ?_ _ _); (repeat (first | (with_reducible rfl) | (with_reducible refine sz1 ?_))); done)) | ((with_reducible refine fro_more ?_ _ ?_); (repeat (first | (with_reducible assumption) | (focus ((with_reducible refine lt_new ?_); (repeat (first | (with_reducible rfl) | (with_reducible refine sz1 ?_))); done)) | (with_reducible refine lt_here ?_))))))) (by (repeat (first | (with_reducible assumption) | (focus ((with_reducible refine lt_new ?_); (repeat (first | (with_reducible rfl) | (with_reducible refine sz1 ?_))); done)) | (with_reducible refine lt_here ?_)))); have l1 : w.heap.size < w1.heap.size := blk_lt (by simp) A1))
  go_loopg [7] 3 (fun k i wr => FlRel 3 w.heap.size (C12 x0 y0 z0 x1 y1 z1 x2 y2 z2 x3 y3 z3) (C12 x0 y0 z0 m1 y1 z0 x2 y2 z2 x3 y3 z3) (C12 x0 y0 z0 m1 y1 z0 m2 y2 z0 x3 y3 z3) (C12 x0 y0 z0 m1 y1 z0 m2 y2 z0 m3 y3 z0) w k i wr)
  case atStart => exact ⟨.inl ⟨rfl, rfl, by omega, A1⟩, F1, by (repeat' (first | (with_reducible exact Below.refl _ _) | (with_reducible refine bstep (by with_reducible assumption) ?_) | (with_reducible refine Below.alloc ?_ ?_ _) | (with_reducible refine Below.drew ?_) | (with_reducible refine below_drewN ?_ _) | (with_reducible refine Below.setCell ?_ ?_ _) | go_size))⟩
  case round =>
    obtain ⟨hk, hf, hB⟩ := hrel
    have HB := Lib.hid hB
    clear hB A1 F1 l1
    have u0 : mx 0 0 = 0 := by decide
    have n0 : IntKind.i64.wrap 0 = 0 := by decide
    have n1 : IntKind.i64.wrap 1 = 1 := by decide
    have n2 : IntKind.i64.wrap 2 = 2 := by decide
    rcases hk with ⟨rfl, rfl, hg, hp⟩ | ⟨rfl, rfl, hg, hp⟩ | ⟨rfl, rfl, hg, hp⟩ | ⟨rfl, rfl, hg, hp⟩
    · have l1 : w.heap.size < wr.heap.size := blk_lt (by simp) hp
      go_wp2_with fail
      have hq : ∀ o, (wr.setCell ⟨w.heap.size, 5, none⟩ (.int .i64 z0)).cell? ⟨w.heap.size, o, none⟩ = (C12 x0 y0 z0 x1 y1 z0 x2 y2 z2 x3 y3 z3)[o]? := fun o => (st_blk hp 5 (.int .i64 z0) (by simp) o).trans (by rfl)
      have hf' : ∀ o, (wr.setCell ⟨w.heap.size, 5, none⟩ (.int .i64 z0)).frozen? ⟨w.heap.size, o, none⟩ = false := fun o => by simp [hf]
      have l2 : w.heap.size < (wr.setCell ⟨w.heap.size, 5, none⟩ (.int .i64 z0)).heap.size := blk_lt (by simp) hq
      clear hp hf
      go_region_with (fail)
      all_goals
        go_wp2_with fail
        go_roundg 2
        case measure => omega
        case rel =>
          have HB' := HB.out
          exact ⟨.inr (.inl ⟨rfl, by simp, by omega, fun o => (st_blk (blk_drew hq) 3 (.int .i64 m1) (by simp) o).trans (by rfl)⟩), fun o => by simp [hf'], by (repeat' (first | (with_reducible exact Below.refl _ _) | (with_reducible refine bstep (by with_reducible assumption) ?_) | (with_reducible refine Below.alloc ?_ ?_ _) | (with_reducible refine Below.drew ?_) | (with_reducible refine below_drewN ?_ _) | (with_reducible refine Below.setCell ?_ ?_ _) | go_size))⟩
    · have l1 : w.heap.size < wr.heap.size := blk_lt (by simp) hp
      go_wp2_with fail
      have hq : ∀ o, (wr.setCell ⟨w.heap.size, 8, none⟩ (.int .i64 z0)).cell? ⟨w.heap.size, o, none⟩ = (C12 x0 y0 z0 m1 y1 z0 x2 y2 z0 x3 y3 z3)[o]? := fun o => (st_blk hp 8 (.int .i64 z0) (by simp) o).trans (by rfl)
      have hf' : ∀ o, (wr.setCell ⟨w.heap.size, 8, none⟩ (.int .i64 z0)).frozen? ⟨w.heap.size, o, none⟩ = false := fun o => by simp [hf]
      have l2 : w.heap.size < (wr.setCell ⟨w.heap.size, 8, none⟩ (.int .i64 z0)).heap.size := blk_lt (by simp) hq
      clear hp hf
      go_region_with (fail)
      all_goals
        go_wp2_with fail
        go_roundg 1
        case measure => omega
        case rel =>
          have HB' := HB.out
          exact ⟨.inr (.inr (.inl ⟨rfl, by simp, by omega, fun o => (st_blk (blk_drew hq) 6 (.int .i64 m2) (by simp) o).trans (by rfl)⟩)), fun o => by simp [hf'], by (repeat' (first | (with_reducible exact Below.refl _ _) | (with_reducible refine bstep (by with_reducible assumption) ?_) | (with_reducible refine Below.alloc ?_ ?_ _) | (with_reducible refine Below.drew ?_) | (with_reducible refine below_drewN ?_ _) | (with_reducible refine Below.setCell ?_ ?_ _) | go_size))⟩
    · have l1 : w.heap.size < wr.heap.size := blk_lt (by simp) hp
      go_wp2_with fail
      have hq : ∀ o, (wr.setCell ⟨w.heap.size, 11, none⟩ (.int .i64 z0)).cell? ⟨w.heap.size, o, none⟩ = (C12 x0 y0 z0 m1 y1 z0 m2 y2 z0 x3 y3 z0)[o]? := fun o => (st_blk hp 11 (.int .i64 z0) (by simp) o).trans (by rfl)
      have hf' : ∀ o, (wr.setCell ⟨w.heap.size, 11, none⟩ (.int .i64 z0)).frozen? ⟨w.heap.size, o, none⟩ = false := fun o => by simp [hf]
      have l2 : w.heap.size < (wr.setCell ⟨w.heap.size, 11, none⟩ (.int .i64 z0)).heap.size := blk_lt (by simp) hq
      clear hp hf
      go_region_with (fail)
      all_goals
        go_wp2_with fail
        go_roundg 0
        case measure => omega
        case rel =>
          have HB' := HB.out
          exact ⟨.inr (.inr (.inr ⟨rfl, by simp, by omega, fun o => (st_blk (blk_drew hq) 9 (.int .i64 m3) (by simp) o).trans (by rfl)⟩)), fun o => by simp [hf'], by (repeat' (first | (with_reducible exact Below.refl _ _) | (with_reducible refine bstep (by with_reducible assumption) ?_) | (with_reducible refine Below.alloc ?_ ?_ _) | (with_reducible refine Below.drew ?_) | (with_reducible refine below_drewN ?_ _) | (with_reducible refine Below.setCell ?_ ?_ _) | go_size))⟩
    · have l1 : w.heap.size < wr.heap.size := blk_lt (by simp) hp
      go_wp2_with (first
        | (go_at_call 17; ((with_reducible refine (K.out _).mono ?_); rintro e v1 ⟨rfl, gb1⟩; have P1 := blk_later (by simp) gb1 hp; have t1 : w.heap.size < v1.heap.size := blk_lt (by simp) P1))
        | (go_at_call 17; ((with_reducible refine (L.out _).mono ?_); rintro e v2 ⟨rfl, gb2⟩; have P2 := blk_later (by simp) gb2 (blk_alloc (by simp) _ P1); have Q2 := blk_later (by simp) gb2 (new_at rfl _ _); have t2 : w.heap.size < v2.heap.size := blk_lt (by simp) P2; have t3 : v1.heap.size < v2.heap.size := blk_lt (by simp) Q2)))

      all_goals
        have HB' := HB.out
        first | (have jj := HH.out (by assumption) (by omega); obtain ⟨j1, j2, j3, j4⟩ := jj) | skip
        first | (exfalso; omega) | (exfalso; exact absurd j1 (by assumption)) | (go_returns; exact ⟨by first | (simp; done) | (simp; omega), by (repeat' (first | (with_reducible exact Below.refl _ _) | (with_reducible refine bstep (by with_reducible assumption) ?_) | (with_reducible refine Below.alloc ?_ ?_ _) | (with_reducible refine Below.drew ?_) | (with_reducible refine below_drewN ?_ _) | (with_reducible refine Below.setCell ?_ ?_ _) | go_size))⟩)
theorem curveFlat_walk (xs : List Int) (hl : xs.length = 12) (_ : ∀ x ∈ xs, I64 x) (i : Int) (hi : I64 i) (n : Int) (hn : I64 n) (w : World) :
    Calls Try.prog 5 #[.agg (xs.map (Value.int .i64)).toArray, .int .i64 i, .int .i64 n] w fun e w' => e = .returned (.bool true) ∧ Below w.heap.size w w' := by
  obtain ⟨x0, y0, z0, x1, y1, z1, x2, y2, z2, x3, y3, z3, rfl⟩ := list12 hl
  exact curveFlat_flat x0 y0 z0 x1 y1 z1 x2 y2 z2 x3 y3 z3 i n hi hn w
end Go.Proofs.Ytdemcleibpgglaa
