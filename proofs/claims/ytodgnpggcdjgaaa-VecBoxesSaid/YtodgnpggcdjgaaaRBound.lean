/- What relievoref02.Join, Has, Bound and relievoref00.SameVs answer: contracts. -/
import Derived.Test.YtodgnpggcdjgaaaRBox
namespace Go.Proofs.Ytodgnpggcdjgaaa
open Go.RowKit
set_option maxRecDepth 100000
set_option linter.unusedSimpArgs false
set_option linter.unusedVariables false
theorem set6_far {w : World} {b b' o : Nat} {u0 u1 u2 u3 u4 u5 y : Value} (hn : b ≠ b') (h : w.cell? ⟨b', o, none⟩ = some y) :
    ((((((w.setCell ⟨b, 0, none⟩ u0).setCell ⟨b, 1, none⟩ u1).setCell ⟨b, 2, none⟩ u2).setCell ⟨b, 3, none⟩ u3).setCell ⟨b, 4, none⟩ u4).setCell ⟨b, 5, none⟩ u5).cell? ⟨b', o, none⟩ = some y := by
  rw [World.cell?_setCell_other _ _ _ _ (by simp [hn]), World.cell?_setCell_other _ _ _ _ (by simp [hn]), World.cell?_setCell_other _ _ _ _ (by simp [hn]), World.cell?_setCell_other _ _ _ _ (by simp [hn]), World.cell?_setCell_other _ _ _ _ (by simp [hn]), World.cell?_setCell_other _ _ _ _ (by simp [hn])]; exact h
theorem lo_next (X : Nat → Int) (c j : Nat) : mn (lo X c (j - 1)) (X (j * 3 + c)) = lo X c j := by
  cases j with
  | zero => simp [lo, mn]
  | succ j => rfl
theorem hi_next (X : Nat → Int) (c j : Nat) : mx (hi X c (j - 1)) (X (j * 3 + c)) = hi X c j := by
  cases j with
  | zero => simp [hi, mx]
  | succ j => rfl
theorem pts_later {w w' : World} {v : Value} {n : Nat} {X : Nat → Int} (hb : Below w.heap.size w w') (h : Pts w v n X) : Pts w' v n X := by
  rcases h with h | ⟨b, off, c, h0, h1, h2, h3, h4, h5⟩
  · exact .inl h
  · exact .inr ⟨b, off, c, h0, h1, h2, h3, Nat.lt_of_lt_of_le h4 hb.size, fun o ho => (hb.cell (p := ⟨b, off + o, none⟩) h4).trans (h5 o ho)⟩
def RBRel (n S : Nat) (X : Nat → Int) (w : World) (k : Nat) (i : Value) (wr : World) : Prop :=
  ∃ j, j ≤ n ∧ k = n - j ∧ i = .int .i64 (j : Int) ∧ (∀ o, wr.cell? ⟨S + 1, o, none⟩ = (#[.int .i64 (lo X 0 (j - 1)), .int .i64 (lo X 1 (j - 1)), .int .i64 (lo X 2 (j - 1)), .int .i64 (hi X 0 (j - 1)), .int .i64 (hi X 1 (j - 1)), .int .i64 (hi X 2 (j - 1))] : Array Value)[o]?) ∧ (∀ o, wr.frozen? ⟨S + 1, o, none⟩ = false) ∧
    (∀ o, wr.cell? ⟨S, o, none⟩ = (#[.int .i64 0, .int .i64 0, .int .i64 0, .int .i64 0, .int .i64 0, .int .i64 0] : Array Value)[o]?) ∧ (∀ o, wr.frozen? ⟨S, o, none⟩ = false) ∧ Below S w wr
set_option maxHeartbeats 4000000 in
theorem rbound_more (b off n c : Nat) (X : Nat → Int) (h0 : 0 < n) (hc : n ≤ c) (hm : c ≤ maxLen) (w : World) (hlt : b < w.heap.size) (hcell : ∀ o, o < n * 3 → w.cell? ⟨b, off + o, none⟩ = some (.int .i64 (X o))) :
    Calls Try.prog 30 #[.slice (some ⟨b, off, none⟩) n c] w fun e w' => e = .returned (.tuple #[B6 (lo X 0 (n - 1)) (lo X 1 (n - 1)) (lo X 2 (n - 1)) (hi X 0 (n - 1)) (hi X 1 (n - 1)) (hi X 2 (n - 1)), .bool true]) ∧ Below w.heap.size w w' := by
  have HC := Lib.hid hcell
  have n0 : ¬ n = 0 := by omega
  have hn1 : (0 : Int) < (n : Int) := by omega
  have C0 := hcell 0 (by omega)
  have C1 := hcell 1 (by omega)
  have C2 := hcell 2 (by omega)
  clear hcell
  rw [Nat.add_zero] at C0
  have nb : w.heap.size + 1 ≠ b := by omega
  go_enter Try.func30, Try.ntmps30
  go_wp2_with fail
  have D0 := cell_alloc (.cells #[.int .i64 0, .int .i64 0, .int .i64 0, .int .i64 0, .int .i64 0, .int .i64 0] 41) C0
  have D1 := cell_alloc (.cells #[.int .i64 0, .int .i64 0, .int .i64 0, .int .i64 0, .int .i64 0, .int .i64 0] 41) C1
  have D2 := cell_alloc (.cells #[.int .i64 0, .int .i64 0, .int .i64 0, .int .i64 0, .int .i64 0, .int .i64 0] 41) C2
  go_region_held3 (fun w' => w'.cell? ⟨b, off, none⟩ = some (.int .i64 (X 0)) ∧ w'.cell? ⟨b, off + 1, none⟩ = some (.int .i64 (X 1)) ∧ w'.cell? ⟨b, off + 2, none⟩ = some (.int .i64 (X 2)))
    (((first | (go_split_ands; skip) | skip); (repeat' apply And.intro) <;> (first | assumption | (with_reducible exact cell_drew (by assumption)) | (with_reducible exact cell_alloc _ (by assumption)) | (go_keep; done) | (simp [*, go_sem]; done))))
    (fail)
  all_goals
    clear D0 D1 D2
    go_wp2_with fail
    go_loopg [5] n (fun k i wr => RBRel n w.heap.size X w k i wr)
    case atStart => exact ⟨0, by omega, by omega, rfl, by simp only [Nat.zero_sub, lo, hi]; (repeat (first | (with_reducible assumption) | (focus ((with_reducible refine new_at ?_ _ _); (repeat (first | (with_reducible rfl) | (with_reducible refine sz1 ?_) | (with_reducible refine sz_drew ?_))); done)) | (with_reducible refine blk_alloc (by simp) _ ?_) | (with_reducible refine blk_drew ?_))), by (repeat (first | (with_reducible assumption) | (focus ((with_reducible refine fro_new ?_ _ _); (repeat (first | (with_reducible rfl) | (with_reducible refine sz1 ?_) | (with_reducible refine sz_drew ?_))); done)) | ((with_reducible refine fro_more ?_ _ ?_); (repeat (first | (with_reducible assumption) | (focus ((with_reducible refine lt_new ?_); (repeat (first | (with_reducible rfl) | (with_reducible refine sz1 ?_) | (with_reducible refine sz_drew ?_))); done)) | (with_reducible refine lt_here ?_) | (with_reducible refine lt_drew ?_)))) | (with_reducible refine fro_drew ?_))), by (repeat (first | (with_reducible assumption) | (focus ((with_reducible refine new_at ?_ _ _); (repeat (first | (with_reducible rfl) | (with_reducible refine sz1 ?_) | (with_reducible refine sz_drew ?_))); done)) | (with_reducible refine blk_alloc (by simp) _ ?_) | (with_reducible refine blk_drew ?_))), by (repeat (first | (with_reducible assumption) | (focus ((with_reducible refine fro_new ?_ _ _); (repeat (first | (with_reducible rfl) | (with_reducible refine sz1 ?_) | (with_reducible refine sz_drew ?_))); done)) | ((with_reducible refine fro_more ?_ _ ?_); (repeat (first | (with_reducible assumption) | (focus ((with_reducible refine lt_new ?_); (repeat (first | (with_reducible rfl) | (with_reducible refine sz1 ?_) | (with_reducible refine sz_drew ?_))); done)) | (with_reducible refine lt_here ?_) | (with_reducible refine lt_drew ?_)))) | (with_reducible refine fro_drew ?_))), by (repeat' (first | (with_reducible exact Below.refl _ _) | (with_reducible refine bstep (by with_reducible assumption) ?_) | (with_reducible refine Below.alloc ?_ ?_ _) | (with_reducible refine Below.drew ?_) | (with_reducible refine below_drewN ?_ _) | (with_reducible refine Below.setCell ?_ ?_ _) | go_size))⟩
    case round =>
      obtain ⟨j, hj, rfl, rfl, B1, F1, Z1, G1, hb⟩ := hrel
      have HB := Lib.hid hb
      have hl1 : w.heap.size + 1 < wr.heap.size := blk_lt (by simp) B1
      have hl0 : w.heap.size < wr.heap.size := by omega
      by_cases hlt' : j < n
      · have x0 := (hb.cell (p := ⟨b, off + (j * 3 + 0), none⟩) hlt).trans (HC.out (j * 3 + 0) (by omega))
        have x1 := (hb.cell (p := ⟨b, off + (j * 3 + 1), none⟩) hlt).trans (HC.out (j * 3 + 1) (by omega))
        have x2 := (hb.cell (p := ⟨b, off + (j * 3 + 2), none⟩) hlt).trans (HC.out (j * 3 + 2) (by omega))
        rw [show off + (j * 3 + 0) = off + j * 3 by omega] at x0
        rw [show off + (j * 3 + 1) = off + j * 3 + 1 by omega] at x1
        rw [show off + (j * 3 + 2) = off + j * 3 + 2 by omega] at x2
        have hj0 : (0 : Int) ≤ (j : Int) := by omega
        have hj1 : (j : Int) < (n : Int) := by omega
        have ns : w.heap.size + 1 ≠ w.heap.size := by omega
        have JN := rjoin_any (lo X 0 (j - 1)) (lo X 1 (j - 1)) (lo X 2 (j - 1)) (hi X 0 (j - 1)) (hi X 1 (j - 1)) (hi X 2 (j - 1)) (X (j * 3 + 0)) (X (j * 3 + 1)) (X (j * 3 + 2)) (X (j * 3 + 0)) (X (j * 3 + 1)) (X (j * 3 + 2))
        rw [lo_next, lo_next, lo_next, hi_next, hi_next, hi_next] at JN
        simp only [Nat.add_zero] at JN x0
        have JN := Lib.hid JN
        clear hb
        go_wp2_with fail
        refine wp_region_held_drew (S := (fun w' => w'.cell? ⟨b, off + j * 3, none⟩ = some (.int .i64 (X (j * 3))) ∧ w'.cell? ⟨b, off + j * 3 + 1, none⟩ = some (.int .i64 (X (j * 3 + 1))) ∧ w'.cell? ⟨b, off + j * 3 + 2, none⟩ = some (.int .i64 (X (j * 3 + 2))))) (by kernel_rfl) ?_ (fun hHeld => ?_)
        · (try dsimp only); (((first | (go_split_ands; skip) | skip); (repeat' apply And.intro) <;> (first | assumption | (with_reducible exact cell_drew (by assumption)) | (with_reducible exact cell_later (by assumption) (by assumption)) | (with_reducible exact set6_far (by assumption) (by assumption)))))
        refine wpAnyH_take (i := 1) (oi := { dst := some 24, op := Go.Op.move (Go.Operand.tmp 0), type := 39, pos := "ref.go:63", after := #[], guard := none }) (v := ?_) rfl (by kernel_rfl) (by kernel_rfl) (by kernel_rfl) (fun _ _ _ h => h) (Or.inl ⟨by rfl, ?_⟩) (by assumption) ?_
        rotate_left
        · intro w hSw; (try dsimp only at hSw); go_simp; (try with_reducible rfl)
        try simp only [Act.put, List.setIfInBounds_toArray, List.set_cons_zero, List.set_cons_succ]
        refine wpAnyH_take (i := 2) (oi := { dst := some 25, op := Go.Op.move (Go.Operand.tmp 5), type := 3, pos := "ref.go:63", after := #[], guard := none }) (v := ?_) rfl (by kernel_rfl) (by kernel_rfl) (by kernel_rfl) (fun _ _ _ h => h) (Or.inl ⟨by rfl, ?_⟩) (by assumption) ?_
        rotate_left
        · intro w hSw; (try dsimp only at hSw); go_simp; (try with_reducible rfl)
        try simp only [Act.put, List.setIfInBounds_toArray, List.set_cons_zero, List.set_cons_succ]
        refine wpAnyH_take (i := 3) (oi := { dst := some 26, op := Go.Op.indexAddr 39 (Go.Operand.tmp 24) (Go.Operand.tmp 25), type := 0, pos := "ref.go:63", after := #[{ on := 1, ground := Go.Ground.data }, { on := 2, ground := Go.Ground.data }], guard := none }) (v := ?_) rfl (by kernel_rfl) (by kernel_rfl) (by kernel_rfl) (fun _ _ _ h => h) (Or.inl ⟨by rfl, ?_⟩) (by assumption) ?_
        rotate_left
        · intro w hSw; (try dsimp only at hSw); go_simp; (try with_reducible rfl)
        try simp only [Act.put, List.setIfInBounds_toArray, List.set_cons_zero, List.set_cons_succ]
        refine wpAnyH_take (i := 4) (oi := { dst := some 27, op := Go.Op.load 23 (Go.Operand.tmp 26), type := 23, pos := "ref.go:63", after := #[{ on := 3, ground := Go.Ground.data }], guard := none }) (v := ?_) rfl (by kernel_rfl) (by kernel_rfl) (by kernel_rfl) (fun _ _ _ h => h) (Or.inl ⟨by rfl, ?_⟩) (by assumption) ?_
        rotate_left
        · intro w hSw; (try dsimp only at hSw); go_simp; (try with_reducible rfl)
        try simp only [Act.put, List.setIfInBounds_toArray, List.set_cons_zero, List.set_cons_succ]
        refine wpAnyH_take (i := 5) (oi := { dst := some 28, op := Go.Op.move (Go.Operand.tmp 0), type := 39, pos := "ref.go:63", after := #[], guard := none }) (v := ?_) rfl (by kernel_rfl) (by kernel_rfl) (by kernel_rfl) (fun _ _ _ h => h) (Or.inl ⟨by rfl, ?_⟩) (by assumption) ?_
        rotate_left
        · intro w hSw; (try dsimp only at hSw); go_simp; (try with_reducible rfl)
        try simp only [Act.put, List.setIfInBounds_toArray, List.set_cons_zero, List.set_cons_succ]
        refine wpAnyH_take (i := 6) (oi := { dst := some 29, op := Go.Op.move (Go.Operand.tmp 5), type := 3, pos := "ref.go:63", after := #[], guard := none }) (v := ?_) rfl (by kernel_rfl) (by kernel_rfl) (by kernel_rfl) (fun _ _ _ h => h) (Or.inl ⟨by rfl, ?_⟩) (by assumption) ?_
        rotate_left
        · intro w hSw; (try dsimp only at hSw); go_simp; (try with_reducible rfl)
        try simp only [Act.put, List.setIfInBounds_toArray, List.set_cons_zero, List.set_cons_succ]
        refine wpAnyH_take (i := 7) (oi := { dst := some 30, op := Go.Op.indexAddr 39 (Go.Operand.tmp 28) (Go.Operand.tmp 29), type := 0, pos := "ref.go:63", after := #[{ on := 5, ground := Go.Ground.data }, { on := 6, ground := Go.Ground.data }], guard := none }) (v := ?_) rfl (by kernel_rfl) (by kernel_rfl) (by kernel_rfl) (fun _ _ _ h => h) (Or.inl ⟨by rfl, ?_⟩) (by assumption) ?_
        rotate_left
        · intro w hSw; (try dsimp only at hSw); go_simp; (try with_reducible rfl)
        try simp only [Act.put, List.setIfInBounds_toArray, List.set_cons_zero, List.set_cons_succ]
        refine wpAnyH_take (i := 8) (oi := { dst := some 31, op := Go.Op.load 23 (Go.Operand.tmp 30), type := 23, pos := "ref.go:63", after := #[{ on := 7, ground := Go.Ground.data }], guard := none }) (v := ?_) rfl (by kernel_rfl) (by kernel_rfl) (by kernel_rfl) (fun _ _ _ h => h) (Or.inl ⟨by rfl, ?_⟩) (by assumption) ?_
        rotate_left
        · intro w hSw; (try dsimp only at hSw); go_simp; (try with_reducible rfl)
        try simp only [Act.put, List.setIfInBounds_toArray, List.set_cons_zero, List.set_cons_succ]
        refine wpAnyH_take (i := 9) (oi := { dst := some 32, op := Go.Op.build 41 #[(0, Go.Operand.tmp 27), (1, Go.Operand.tmp 31)], type := 41, pos := "ref.go:63", after := #[{ on := 4, ground := Go.Ground.data }, { on := 8, ground := Go.Ground.data }], guard := none }) (v := ?_) rfl (by kernel_rfl) (by kernel_rfl) (by kernel_rfl) (fun _ _ _ h => h) (Or.inl ⟨by rfl, ?_⟩) (by assumption) ?_
        rotate_left
        · intro w hSw; (try dsimp only at hSw); go_simp; (try with_reducible rfl)
        try simp only [Act.put, List.setIfInBounds_toArray, List.set_cons_zero, List.set_cons_succ]
        refine wpAnyH_ready (rs := [0]) (by kernel_rfl) (by simp) ?_
        refine AllReadyH.cons (o := { dst := some 23, op := Go.Op.load 41 (Go.Operand.tmp 4), type := 41, pos := "ref.go:63", after := #[], guard := none }) rfl (fun K hK => ?_) AllReadyH.nil
        go_simp
        refine hK.out _ _ ?_ (fun hHeld0 => ?_)
        · (try dsimp only); (exact hHeld)
        clear hK K hHeld
        try simp only [Act.put, List.setIfInBounds_toArray, List.set_cons_zero, List.set_cons_succ]
        refine wpAnyH_ready (rs := [10]) (by kernel_rfl) (by simp) ?_
        refine AllReadyH.cons (o := { dst := some 33, op := Go.Op.call { callee := Go.Callee.value (Go.Operand.func 32), args := #[Go.Operand.tmp 23, Go.Operand.tmp 32], argTypes := #[41, 41] }, type := 41, pos := "ref.go:63", after := #[{ on := 0, ground := Go.Ground.data }, { on := 9, ground := Go.Ground.data }], guard := none }) rfl (fun K hK => ?_) AllReadyH.nil
        go_simp
        (go_at_call 32; ((with_reducible refine (JN.out _).mono ?_); rintro e w2 ⟨rfl, hb2⟩; have B2 := blk_later (by simp) hb2 (blk_drew B1); have Z2 := blk_later (by simp) hb2 (blk_drew Z1); have F2 := fro_call hb2 (fro_drew F1) (lt_drew hl1); have G2 := fro_call hb2 (fro_drew G1) (lt_drew hl0); have hl2 : w.heap.size + 1 < w2.heap.size := blk_lt (by simp) B2; clear B1 Z1 F1 G1))
        refine hK.out _ _ ?_ (fun hHeld10 => ?_)
        · (try dsimp only); (exact ⟨cell_later hb2 hHeld0.1, cell_later hb2 hHeld0.2.1, cell_later hb2 hHeld0.2.2⟩)
        clear hK K hHeld0
        try simp only [Act.put, List.setIfInBounds_toArray, List.set_cons_zero, List.set_cons_succ]
        refine wpAnyH_ready (rs := [11]) (by kernel_rfl) (by simp) ?_
        refine AllReadyH.cons (o := { dst := none, op := Go.Op.store 41 (Go.Operand.tmp 4) (Go.Operand.tmp 33), type := 0, pos := "ref.go:63", after := #[{ on := 10, ground := Go.Ground.data }, { on := 10, ground := Go.Ground.chain }, { on := 0, ground := Go.Ground.phase }, { on := 1, ground := Go.Ground.phase }, { on := 2, ground := Go.Ground.phase }, { on := 3, ground := Go.Ground.phase }, { on := 4, ground := Go.Ground.phase }, { on := 5, ground := Go.Ground.phase }, { on := 6, ground := Go.Ground.phase }, { on := 7, ground := Go.Ground.phase }, { on := 8, ground := Go.Ground.phase }, { on := 9, ground := Go.Ground.phase }, { on := 10, ground := Go.Ground.phase }], guard := none }) rfl (fun K hK => ?_) AllReadyH.nil
        go_simp
        refine hK.out _ _ ?_ (fun hHeld11 => ?_)
        · (try dsimp only); (exact ⟨set6_far nb hHeld10.1, set6_far nb hHeld10.2.1, set6_far nb hHeld10.2.2⟩)
        clear hK K hHeld10
        try simp only [Act.put, List.setIfInBounds_toArray, List.set_cons_zero, List.set_cons_succ]
        refine wpAnyH_done (by kernel_rfl) ?_ _
        go_wp2_with fail
        have HB' := HB.out
        go_roundg (n - (j + 1))
        case measure => omega
        case rel => exact ⟨j + 1, by omega, rfl, by first | (simp; done) | (simp; exact w64 (by omega) (by have := hm; unfold maxLen at this; omega)), s6_blk (by simp) B2, fun o => by simp [F2], s6_far ns Z2, fun o => by simp [G2], by (repeat' (first | (with_reducible exact Below.refl _ _) | (with_reducible refine bstep (by with_reducible assumption) ?_) | (with_reducible refine Below.alloc ?_ ?_ _) | (with_reducible refine Below.drew ?_) | (with_reducible refine below_drewN ?_ _) | (with_reducible refine Below.setCell ?_ ?_ _) | go_size))⟩
      · obtain rfl : j = n := by omega
        have hj1 : ¬ ((j : Int) < (j : Int)) := by omega
        clear hb
        go_wp2_with fail
        have HB' := HB.out
        have K := s6_blk (u0 := .int .i64 (lo X 0 (j - 1))) (u1 := .int .i64 (lo X 1 (j - 1))) (u2 := .int .i64 (lo X 2 (j - 1))) (u3 := .int .i64 (hi X 0 (j - 1))) (u4 := .int .i64 (hi X 1 (j - 1))) (u5 := .int .i64 (hi X 2 (j - 1))) (by simp) Z1
        have k0 := K 0
        have k1 := K 1
        have k2 := K 2
        have k3 := K 3
        have k4 := K 4
        have k5 := K 5
        refine bodyPost_ret (v := .tuple #[B6 (lo X 0 (j - 1)) (lo X 1 (j - 1)) (lo X 2 (j - 1)) (hi X 0 (j - 1)) (hi X 1 (j - 1)) (hi X 2 (j - 1)), .bool true]) (by simp [results, Try.results30, go_sem, k0, k1, k2, k3, k4, k5]) rfl ?_
        exact ⟨rfl, by (repeat' (first | (with_reducible exact Below.refl _ _) | (with_reducible refine bstep (by with_reducible assumption) ?_) | (with_reducible refine Below.alloc ?_ ?_ _) | (with_reducible refine Below.drew ?_) | (with_reducible refine below_drewN ?_ _) | (with_reducible refine Below.setCell ?_ ?_ _) | go_size))⟩
theorem rbound_none (p : Option Addr) (c : Nat) (w : World) :
    Calls Try.prog 30 #[.slice p 0 c] w fun e w' => e = .returned (.tuple #[B6 0 0 0 0 0 0, .bool false]) ∧ Below w.heap.size w w' := by
  go_enter Try.func30, Try.ntmps30
  go_wp2_with fail
  go_returns
  exact ⟨by simp, by go_grown⟩
theorem rbound_some (n : Nat) (v : Value) (X : Nat → Int) (h0 : 0 < n) (w : World) (hv : Pts w v n X) :
    Calls Try.prog 30 #[v] w fun e w' => e = .returned (.tuple #[B6 (lo X 0 (n - 1)) (lo X 1 (n - 1)) (lo X 2 (n - 1)) (hi X 0 (n - 1)) (hi X 1 (n - 1)) (hi X 2 (n - 1)), .bool true]) ∧ Below w.heap.size w w' := by
  rcases hv with ⟨rfl, _⟩ | ⟨b, off, c, rfl, _, h2, h3, h4, h5⟩
  · omega
  exact rbound_more b off n c X h0 h2 h3 w h4 h5
end Go.Proofs.Ytodgnpggcdjgaaa
