/- The law on least boxes, walked: for all slices of points of 64 bits it answers true. -/
import Derived.Test.YtodgnpggcdjgaaaAlive02
import Derived.Test.YtodgnpggcdjgaaaBound
import Derived.Test.YtodgnpggcdjgaaaSet
namespace Go.Proofs.Ytodgnpggcdjgaaa
open Go.RowKit
set_option maxRecDepth 100000
set_option linter.unusedSimpArgs false
set_option linter.unusedVariables false
/-- Has one of the first j points the part c in common with a number? -/
def tb (X : Nat → Int) (c : Nat) (l : Int) : Nat → Bool
  | 0 => false
  | j + 1 => tb X c l j || (X (j * 3 + c) == l)
theorem tb_true {X : Nat → Int} {c : Nat} {l : Int} {n k : Nat} (hk : k < n) (h : X (k * 3 + c) = l) : tb X c l n = true := by
  induction n with
  | zero => omega
  | succ n ih =>
    simp only [tb, Bool.or_eq_true, beq_iff_eq]
    rcases Nat.lt_or_ge k n with h' | h'
    · exact .inl (ih h')
    · obtain rfl : k = n := by omega
      exact .inr h
abbrev C6b (a b c d e f : Bool) : Array Value := #[.bool a, .bool b, .bool c, .bool d, .bool e, .bool f]
theorem vb_far (v : Value) (n : Nat) (X : Nat → Int) (hn : 2000 < n) (w : World) (hv : Pts w v n X) :
    Calls Try.prog 10 #[v] w fun e w' => e = .returned (.bool true) ∧ Below w.heap.size w w' := by
  rcases hv with ⟨rfl, _⟩ | ⟨b, off, c, rfl, h1, _⟩
  · omega
  have d : (2000 : Int) < (n : Int) := by omega
  go_enter Try.func10, Try.ntmps10
  go_wp2_with (go_at_call 20; ((with_reducible refine (alive02_any _).mono ?_); rintro e w1 ⟨rfl, hb1⟩))
  all_goals first | (exfalso; omega) | (go_returns; exact ⟨by simp, by (repeat' (first | (with_reducible exact Below.refl _ _) | (with_reducible refine bstep (by with_reducible assumption) ?_) | (with_reducible refine Below.alloc ?_ ?_ _) | (with_reducible refine Below.drew ?_) | (with_reducible refine below_drewN ?_ _) | (with_reducible refine Below.setCell ?_ ?_ _) | go_size))⟩)
theorem vb_none (v : Value) (X : Nat → Int) (w : World) (hv : Pts w v 0 X) :
    Calls Try.prog 10 #[v] w fun e w' => e = .returned (.bool true) ∧ Below w.heap.size w w' := by
  rcases hv with ⟨_, a, c, rfl⟩ | ⟨b, off, c, rfl, h1, _⟩
  case inr => omega
  go_enter Try.func10, Try.ntmps10
  go_wp2_with (first
    | (go_at_call 20; ((with_reducible refine (alive02_any _).mono ?_); rintro e w1 ⟨rfl, hb1⟩))
    | (go_at_call 29; ((with_reducible refine (bound_none _ _ _).mono ?_); rintro e w2 ⟨rfl, hb2⟩; have hs2 := hb2.size)))
  have hs1 := hb1.size
  go_returns
  exact ⟨by simp, by (repeat' (first | (with_reducible exact Below.refl _ _) | (with_reducible refine bstep (by with_reducible assumption) ?_) | (with_reducible refine Below.alloc ?_ ?_ _) | (with_reducible refine Below.drew ?_) | (with_reducible refine below_drewN ?_ _) | (with_reducible refine Below.setCell ?_ ?_ _) | go_size))⟩
def VIn (g T P U : Nat) (t0 t1 t2 t3 t4 t5 s0 s1 s2 s3 s4 s5 : Bool) (bs : Array Value) (B : Nat) (w : World) (k : Nat) (i : Value) (wr : World) : Prop :=
  ((k = 6 ∧ i = .int .i64 0 ∧ 0 ≤ g ∧ (∀ o, wr.cell? ⟨T, o, none⟩ = (C6b t0 t1 t2 t3 t4 t5)[o]?)) ∨ (k = 5 ∧ i = .int .i64 1 ∧ 1 ≤ g ∧ (∀ o, wr.cell? ⟨T, o, none⟩ = (C6b (t0 || s0) t1 t2 t3 t4 t5)[o]?)) ∨ (k = 4 ∧ i = .int .i64 2 ∧ 2 ≤ g ∧ (∀ o, wr.cell? ⟨T, o, none⟩ = (C6b (t0 || s0) (t1 || s1) t2 t3 t4 t5)[o]?)) ∨ (k = 3 ∧ i = .int .i64 3 ∧ 3 ≤ g ∧ (∀ o, wr.cell? ⟨T, o, none⟩ = (C6b (t0 || s0) (t1 || s1) (t2 || s2) t3 t4 t5)[o]?)) ∨
   (k = 2 ∧ i = .int .i64 4 ∧ 4 ≤ g ∧ (∀ o, wr.cell? ⟨T, o, none⟩ = (C6b (t0 || s0) (t1 || s1) (t2 || s2) (t3 || s3) t4 t5)[o]?)) ∨ (k = 1 ∧ i = .int .i64 5 ∧ 5 ≤ g ∧ (∀ o, wr.cell? ⟨T, o, none⟩ = (C6b (t0 || s0) (t1 || s1) (t2 || s2) (t3 || s3) (t4 || s4) t5)[o]?)) ∨ (k = 0 ∧ i = .int .i64 6 ∧ 6 ≤ g ∧ (∀ o, wr.cell? ⟨T, o, none⟩ = (C6b (t0 || s0) (t1 || s1) (t2 || s2) (t3 || s3) (t4 || s4) (t5 || s5))[o]?))) ∧
  (∀ o, wr.cell? ⟨U, o, none⟩ = (C6b s0 s1 s2 s3 s4 s5)[o]?) ∧ (∀ o, wr.cell? ⟨P, o, none⟩ = bs[o]?) ∧ (∀ o, wr.frozen? ⟨T, o, none⟩ = false) ∧ Below B w wr
def VOut (n W2 : Nat) (X : Nat → Int) (bs : Array Value) (l0 l1 l2 h0 h1 h2 : Int) (w : World) (k : Nat) (i : Value) (wr : World) : Prop :=
  ∃ j, j ≤ n ∧ k = n - j ∧ i = .int .i64 (j : Int) ∧ (∀ o, wr.cell? ⟨W2 + 1, o, none⟩ = (C6b (tb X 0 l0 j) (tb X 1 l1 j) (tb X 2 l2 j) (tb X 0 h0 j) (tb X 1 h1 j) (tb X 2 h2 j))[o]?) ∧ (∀ o, wr.cell? ⟨W2, o, none⟩ = bs[o]?) ∧ (∀ o, wr.frozen? ⟨W2 + 1, o, none⟩ = false) ∧ Below w.heap.size w wr
set_option maxHeartbeats 8000000 in
theorem vb_some (n : Nat) (b off c : Nat) (X : Nat → Int) (hn : n ≤ 2000) (g1 : 0 < n) (g2 : n ≤ c) (g3 : c ≤ maxLen) (w : World) (hlt : b < w.heap.size) (hcell : ∀ o, o < n * 3 → w.cell? ⟨b, off + o, none⟩ = some (.int .i64 (X o))) :
    Calls Try.prog 10 #[.slice (some ⟨b, off, none⟩) n c] w fun e w' => e = .returned (.bool true) ∧ Below w.heap.size w w' := by
  have BO : ∀ w', Below w.heap.size w w' → Calls Try.prog 29 #[.slice (some ⟨b, off, none⟩) n c] w' fun e w'' => e = .returned (.tuple #[B6 (lo X 0 (n - 1)) (lo X 1 (n - 1)) (lo X 2 (n - 1)) (hi X 0 (n - 1)) (hi X 1 (n - 1)) (hi X 2 (n - 1)), .bool true]) ∧ Below w'.heap.size w' w'' :=
    fun w' hb => bound_some n _ X g1 w' (.inr ⟨b, off, c, rfl, g1, g2, g3, by have := hb.size; omega, fun o ho => (hb.cell (p := ⟨b, off + o, none⟩) hlt).trans (hcell o ho)⟩)
  have HA : ∀ j, j < n → ∀ w', Calls Try.prog 33 #[B6 (lo X 0 (n - 1)) (lo X 1 (n - 1)) (lo X 2 (n - 1)) (hi X 0 (n - 1)) (hi X 1 (n - 1)) (hi X 2 (n - 1)), V3 (X (j * 3)) (X (j * 3 + 1)) (X (j * 3 + 2))] w' fun e w'' => e = .returned (.bool true) ∧ Below w'.heap.size w' w'' := by
    intro j hj w'
    have := has_any (lo X 0 (n - 1)) (lo X 1 (n - 1)) (lo X 2 (n - 1)) (hi X 0 (n - 1)) (hi X 1 (n - 1)) (hi X 2 (n - 1)) (X (j * 3)) (X (j * 3 + 1)) (X (j * 3 + 2)) w'
    rw [show hasB (lo X 0 (n - 1)) (lo X 1 (n - 1)) (lo X 2 (n - 1)) (hi X 0 (n - 1)) (hi X 1 (n - 1)) (hi X 2 (n - 1)) (X (j * 3)) (X (j * 3 + 1)) (X (j * 3 + 2)) = true by
      simp only [hasB, btw, Bool.and_eq_true, decide_eq_true_eq]
      exact ⟨⟨⟨lo_le X 0 (n - 1) j (by omega), le_hi X 0 (n - 1) j (by omega)⟩, ⟨lo_le X 1 (n - 1) j (by omega), le_hi X 1 (n - 1) j (by omega)⟩⟩, ⟨lo_le X 2 (n - 1) j (by omega), le_hi X 2 (n - 1) j (by omega)⟩⟩] at this
    exact this
  have Tl : ∀ c, tb X c (lo X c (n - 1)) n = true := fun c => by
    obtain ⟨k, h1, h2⟩ := lo_at X c (n - 1)
    exact tb_true (by omega) h2
  have Th : ∀ c, tb X c (hi X c (n - 1)) n = true := fun c => by
    obtain ⟨k, h1, h2⟩ := hi_at X c (n - 1)
    exact tb_true (by omega) h2
  obtain ⟨l0, e0⟩ : ∃ l, lo X 0 (n - 1) = l := ⟨_, rfl⟩
  obtain ⟨l1, e1⟩ : ∃ l, lo X 1 (n - 1) = l := ⟨_, rfl⟩
  obtain ⟨l2, e2⟩ : ∃ l, lo X 2 (n - 1) = l := ⟨_, rfl⟩
  obtain ⟨h0, e3⟩ : ∃ l, hi X 0 (n - 1) = l := ⟨_, rfl⟩
  obtain ⟨h1, e4⟩ : ∃ l, hi X 1 (n - 1) = l := ⟨_, rfl⟩
  obtain ⟨h2, e5⟩ : ∃ l, hi X 2 (n - 1) = l := ⟨_, rfl⟩
  have T0 := Tl 0
  have T1 := Tl 1
  have T2 := Tl 2
  have T3 := Th 0
  have T4 := Th 1
  have T5 := Th 2
  rw [e0] at T0
  rw [e1] at T1
  rw [e2] at T2
  rw [e3] at T3
  rw [e4] at T4
  rw [e5] at T5
  rw [e0, e1, e2, e3, e4, e5] at BO HA
  have BO := Lib.hid BO
  have HA := Lib.hid HA
  have HC := Lib.hid hcell
  have d : ¬ (2000 : Int) < (n : Int) := by omega
  clear Tl Th e0 e1 e2 e3 e4 e5 hcell
  go_enter Try.func10, Try.ntmps10
  go_wp2_with (first
    | (go_at_call 20; ((with_reducible refine (alive02_any _).mono ?_); rintro e w1 ⟨rfl, hb1⟩))
    | (go_at_call 29; ((refine (BO.out _ (by (repeat' (first | (with_reducible exact Below.refl _ _) | (with_reducible refine bstep (by with_reducible assumption) ?_) | (with_reducible refine Below.alloc ?_ ?_ _) | (with_reducible refine Below.drew ?_) | (with_reducible refine below_drewN ?_ _) | (with_reducible refine Below.setCell ?_ ?_ _) | go_size)))).mono ?_); rintro e w2 ⟨rfl, hb2⟩; have hs2 : w.heap.size ≤ w2.heap.size := Nat.le_trans hb1.size hb2.size)))
  have hs1 := hb1.size
  go_loopg [6] n (fun k i wr => VOut n w2.heap.size X #[.int .i64 l0, .int .i64 l1, .int .i64 l2, .int .i64 h0, .int .i64 h1, .int .i64 h2] l0 l1 l2 h0 h1 h2 w k i wr)
  case atStart => exact ⟨0, by omega, by omega, rfl, by simp only [tb]; (repeat (first | (with_reducible assumption) | (focus ((with_reducible refine new_at ?_ _ _); (repeat (first | (with_reducible rfl) | (with_reducible refine sz1 ?_))); done)) | (with_reducible refine blk_alloc (by simp) _ ?_) | (with_reducible refine blk_drew ?_))), by (repeat (first | (with_reducible assumption) | (focus ((with_reducible refine new_at ?_ _ _); (repeat (first | (with_reducible rfl) | (with_reducible refine sz1 ?_))); done)) | (with_reducible refine blk_alloc (by simp) _ ?_) | (with_reducible refine blk_drew ?_))), by (repeat (first | (with_reducible assumption) | (focus ((with_reducible refine fro_new ?_ _ _); (repeat (first | (with_reducible rfl) | (with_reducible refine sz1 ?_))); done)) | ((with_reducible refine fro_more ?_ _ ?_); (repeat (first | (with_reducible assumption) | (focus ((with_reducible refine lt_new ?_); (repeat (first | (with_reducible rfl) | (with_reducible refine sz1 ?_))); done)) | (with_reducible refine lt_here ?_)))))), by (repeat' (first | (with_reducible exact Below.refl _ _) | (with_reducible refine bstep (by with_reducible assumption) ?_) | (with_reducible refine Below.alloc ?_ ?_ _) | (with_reducible refine Below.drew ?_) | (with_reducible refine below_drewN ?_ _) | (with_reducible refine Below.setCell ?_ ?_ _) | go_size))⟩
  case round =>
    obtain ⟨j, hj, rfl, rfl, tc, bc, tf, hb⟩ := hrel
    have HB := Lib.hid hb
    have l1' : w2.heap.size + 1 < wr.heap.size := blk_lt (by simp) tc
    have l0' : w2.heap.size < wr.heap.size := by omega
    by_cases hjn : j < n
    · have x0 := (hb.cell (p := ⟨b, off + (j * 3 + 0), none⟩) hlt).trans (HC.out (j * 3 + 0) (by omega))
      have x1 := (hb.cell (p := ⟨b, off + (j * 3 + 1), none⟩) hlt).trans (HC.out (j * 3 + 1) (by omega))
      have x2 := (hb.cell (p := ⟨b, off + (j * 3 + 2), none⟩) hlt).trans (HC.out (j * 3 + 2) (by omega))
      rw [show off + (j * 3 + 0) = off + j * 3 by omega] at x0
      rw [show off + (j * 3 + 1) = off + j * 3 + 1 by omega] at x1
      rw [show off + (j * 3 + 2) = off + j * 3 + 2 by omega] at x2
      have hj0 : (0 : Int) ≤ (j : Int) := by omega
      have hj1 : (j : Int) < (n : Int) := by omega
      have HJ := Lib.hid (HA.out j hjn)
      have N0 : tb X 0 l0 (j + 1) = (tb X 0 l0 j || (X (j * 3) == l0)) := rfl
      have N1 : tb X 1 l1 (j + 1) = (tb X 1 l1 j || (X (j * 3 + 1) == l1)) := rfl
      have N2 : tb X 2 l2 (j + 1) = (tb X 2 l2 j || (X (j * 3 + 2) == l2)) := rfl
      have N3 : tb X 0 h0 (j + 1) = (tb X 0 h0 j || (X (j * 3) == h0)) := rfl
      have N4 : tb X 1 h1 (j + 1) = (tb X 1 h1 j || (X (j * 3 + 1) == h1)) := rfl
      have N5 : tb X 2 h2 (j + 1) = (tb X 2 h2 j || (X (j * 3 + 2) == h2)) := rfl
      obtain ⟨t0, q0⟩ : ∃ t, tb X 0 l0 j = t := ⟨_, rfl⟩
      obtain ⟨t1, q1⟩ : ∃ t, tb X 1 l1 j = t := ⟨_, rfl⟩
      obtain ⟨t2, q2⟩ : ∃ t, tb X 2 l2 j = t := ⟨_, rfl⟩
      obtain ⟨t3, q3⟩ : ∃ t, tb X 0 h0 j = t := ⟨_, rfl⟩
      obtain ⟨t4, q4⟩ : ∃ t, tb X 1 h1 j = t := ⟨_, rfl⟩
      obtain ⟨t5, q5⟩ : ∃ t, tb X 2 h2 j = t := ⟨_, rfl⟩
      rw [q0, q1, q2, q3, q4, q5] at tc
      rw [q0] at N0
      rw [q1] at N1
      rw [q2] at N2
      rw [q3] at N3
      rw [q4] at N4
      rw [q5] at N5
      obtain ⟨a0, ea0⟩ : ∃ a, X (j * 3) = a := ⟨_, rfl⟩
      obtain ⟨a1, ea1⟩ : ∃ a, X (j * 3 + 1) = a := ⟨_, rfl⟩
      obtain ⟨a2, ea2⟩ : ∃ a, X (j * 3 + 2) = a := ⟨_, rfl⟩
      rw [show j * 3 + 0 = j * 3 by omega, ea0] at x0
      rw [ea1] at x1
      rw [ea2] at x2
      rw [ea0, ea1, ea2] at HJ
      rw [ea0] at N0 N3
      rw [ea1] at N1 N4
      rw [ea2] at N2 N5
      have N0 := Lib.hid N0
      have N1 := Lib.hid N1
      have N2 := Lib.hid N2
      have N3 := Lib.hid N3
      have N4 := Lib.hid N4
      have N5 := Lib.hid N5
      clear hb q0 q1 q2 q3 q4 q5 ea0 ea1 ea2 T0 T1 T2 T3 T4 T5
      go_wp2_with (go_at_call 33; ((with_reducible refine (HJ.out _).mono ?_); rintro e w3 ⟨rfl, hb3⟩; have tc3 := blk_later (by simp) hb3 (blk_alloc (by simp) _ tc); have bc3 := blk_later (by simp) hb3 (blk_alloc (by simp) _ bc); have tf3 := fro_call hb3 (fro_more l1' _ tf) (lt_here l1'); have pc3 := blk_later (by simp) hb3 (new_at rfl _ _); have l3 : w2.heap.size + 1 < w3.heap.size := blk_lt (by simp) tc3; have l4 : w2.heap.size < w3.heap.size := (by omega); have l5 : wr.heap.size < w3.heap.size := blk_lt (by simp) pc3; clear tc bc tf))
      go_loopg [9] 6 (fun k i wx => VIn 6 (w2.heap.size + 1) w2.heap.size w3.heap.size t0 t1 t2 t3 t4 t5 (a0 == l0) (a1 == l1) (a2 == l2) (a0 == h0) (a1 == h1) (a2 == h2) #[.int .i64 l0, .int .i64 l1, .int .i64 l2, .int .i64 h0, .int .i64 h1, .int .i64 h2] w.heap.size w k i wx)
      case atStart =>
        have HB' := HB.out
        exact ⟨.inl ⟨rfl, rfl, by omega, blk_alloc (by simp) _ tc3⟩, by (repeat (first | (with_reducible assumption) | (focus ((with_reducible refine new_at ?_ _ _); (repeat (first | (with_reducible rfl) | (with_reducible refine sz1 ?_))); done)) | (with_reducible refine blk_alloc (by simp) _ ?_) | (with_reducible refine blk_drew ?_))), blk_alloc (by simp) _ bc3, fro_more l3 _ tf3, by (repeat' (first | (with_reducible exact Below.refl _ _) | (with_reducible refine bstep (by with_reducible assumption) ?_) | (with_reducible refine Below.alloc ?_ ?_ _) | (with_reducible refine Below.drew ?_) | (with_reducible refine below_drewN ?_ _) | (with_reducible refine Below.setCell ?_ ?_ _) | go_size))⟩
      case round =>
        obtain ⟨hk, uc, pc, ff, hbx⟩ := hrel
        have HBX := Lib.hid hbx
        clear hbx tc3 bc3 tf3 pc3
        have n1 : w2.heap.size + 1 ≠ w2.heap.size := by omega
        have n2 : w2.heap.size + 1 ≠ w3.heap.size := by omega
        have m1 : w3.heap.size < wr.heap.size := blk_lt (by simp) uc
        have m2 : w2.heap.size < wr.heap.size := blk_lt (by simp) pc
        rcases hk with ⟨rfl, rfl, hg, tc⟩ | ⟨rfl, rfl, hg, tc⟩ | ⟨rfl, rfl, hg, tc⟩ | ⟨rfl, rfl, hg, tc⟩ | ⟨rfl, rfl, hg, tc⟩ | ⟨rfl, rfl, hg, tc⟩ | ⟨rfl, rfl, hg, tc⟩
        · have m3 : w2.heap.size + 1 < wr.heap.size := blk_lt (by simp) tc
          go_wp2_with fail
          all_goals
            go_roundg 5
            case measure => omega
            case rel =>
              have HB' := HBX.out
              exact ⟨.inr (.inl ⟨rfl, by simp, by omega, fun o => (st_blk tc 0 _ (by simp) o).trans (by simp [*])⟩), st_far n2 uc, st_far n1 pc, fun o => by simp [ff], by (repeat' (first | (with_reducible exact Below.refl _ _) | (with_reducible refine bstep (by with_reducible assumption) ?_) | (with_reducible refine Below.alloc ?_ ?_ _) | (with_reducible refine Below.drew ?_) | (with_reducible refine below_drewN ?_ _) | (with_reducible refine Below.setCell ?_ ?_ _) | go_size))⟩
        · have m3 : w2.heap.size + 1 < wr.heap.size := blk_lt (by simp) tc
          go_wp2_with fail
          all_goals
            go_roundg 4
            case measure => omega
            case rel =>
              have HB' := HBX.out
              exact ⟨.inr (.inr (.inl ⟨rfl, by simp, by omega, fun o => (st_blk tc 1 _ (by simp) o).trans (by simp [*])⟩)), st_far n2 uc, st_far n1 pc, fun o => by simp [ff], by (repeat' (first | (with_reducible exact Below.refl _ _) | (with_reducible refine bstep (by with_reducible assumption) ?_) | (with_reducible refine Below.alloc ?_ ?_ _) | (with_reducible refine Below.drew ?_) | (with_reducible refine below_drewN ?_ _) | (with_reducible refine Below.setCell ?_ ?_ _) | go_size))⟩
        · have m3 : w2.heap.size + 1 < wr.heap.size := blk_lt (by simp) tc
          go_wp2_with fail
          all_goals
            go_roundg 3
            case measure => omega
            case rel =>
              have HB' := HBX.out
              exact ⟨.inr (.inr (.inr (.inl ⟨rfl, by simp, by omega, fun o => (st_blk tc 2 _ (by simp) o).trans (by simp [*])⟩))), st_far n2 uc, st_far n1 pc, fun o => by simp [ff], by (repeat' (first | (with_reducible exact Below.refl _ _) | (with_reducible refine bstep (by with_reducible assumption) ?_) | (with_reducible refine Below.alloc ?_ ?_ _) | (with_reducible refine Below.drew ?_) | (with_reducible refine below_drewN ?_ _) | (with_reducible refine Below.setCell ?_ ?_ _) | go_size))⟩
        · have m3 : w2.heap.size + 1 < wr.heap.size := blk_lt (by simp) tc
          go_wp2_with fail
          all_goals
            go_roundg 2
            case measure => omega
            case rel =>
              have HB' := HBX.out
              exact ⟨.inr (.inr (.inr (.inr (.inl ⟨rfl, by simp, by omega, fun o => (st_blk tc 3 _ (by simp) o).trans (by simp [*])⟩)))), st_far n2 uc, st_far n1 pc, fun o => by simp [ff], by (repeat' (first | (with_reducible exact Below.refl _ _) | (with_reducible refine bstep (by with_reducible assumption) ?_) | (with_reducible refine Below.alloc ?_ ?_ _) | (with_reducible refine Below.drew ?_) | (with_reducible refine below_drewN ?_ _) | (with_reducible refine Below.setCell ?_ ?_ _) | go_size))⟩
        · have m3 : w2.heap.size + 1 < wr.heap.size := blk_lt (by simp) tc
          go_wp2_with fail
          all_goals
            go_roundg 1
            case measure => omega
            case rel =>
              have HB' := HBX.out
              exact ⟨.inr (.inr (.inr (.inr (.inr (.inl ⟨rfl, by simp, by omega, fun o => (st_blk tc 4 _ (by simp) o).trans (by simp [*])⟩))))), st_far n2 uc, st_far n1 pc, fun o => by simp [ff], by (repeat' (first | (with_reducible exact Below.refl _ _) | (with_reducible refine bstep (by with_reducible assumption) ?_) | (with_reducible refine Below.alloc ?_ ?_ _) | (with_reducible refine Below.drew ?_) | (with_reducible refine below_drewN ?_ _) | (with_reducible refine Below.setCell ?_ ?_ _) | go_size))⟩
        · have m3 : w2.heap.size + 1 < wr.heap.size := blk_lt (by simp) tc
          go_wp2_with fail
          all_goals
            go_roundg 0
            case measure => omega
            case rel =>
              have HB' := HBX.out
              exact ⟨.inr (.inr (.inr (.inr (.inr (.inr (⟨rfl, by simp, by omega, fun o => (st_blk tc 5 _ (by simp) o).trans (by simp [*])⟩)))))), st_far n2 uc, st_far n1 pc, fun o => by simp [ff], by (repeat' (first | (with_reducible exact Below.refl _ _) | (with_reducible refine bstep (by with_reducible assumption) ?_) | (with_reducible refine Below.alloc ?_ ?_ _) | (with_reducible refine Below.drew ?_) | (with_reducible refine below_drewN ?_ _) | (with_reducible refine Below.setCell ?_ ?_ _) | go_size))⟩
        · have m3 : w2.heap.size + 1 < wr.heap.size := blk_lt (by simp) tc
          go_wp2_with fail
          have HB' := HBX.out
          go_roundg (n - (j + 1))
          case measure => omega
          case rel =>
            rw [← N0.out, ← N1.out, ← N2.out, ← N3.out, ← N4.out, ← N5.out] at tc
            exact ⟨j + 1, by omega, rfl, by first | (simp; done) | (simp; exact w64 (by omega) (by omega)), tc, pc, ff, HB'⟩
    · obtain rfl : j = n := by omega
      rw [T0, T1, T2, T3, T4, T5] at tc
      have hj1 : ¬ ((j : Int) < (j : Int)) := by omega
      clear hb
      have EQ : ∀ w : World, Sem.run Try.prog (Op.equalIn 10000 49 (.agg (C6b true true true true true true)) (.agg (C6b true true true true true true))) w = .ok true w := fun _ => by kernel_rfl
      go_wp2_with fail
      have HB' := HB.out
      go_returns
      exact ⟨by simp, by (repeat' (first | (with_reducible exact Below.refl _ _) | (with_reducible refine bstep (by with_reducible assumption) ?_) | (with_reducible refine Below.alloc ?_ ?_ _) | (with_reducible refine Below.drew ?_) | (with_reducible refine below_drewN ?_ _) | (with_reducible refine Below.setCell ?_ ?_ _) | go_size))⟩
theorem vecBound_walk (v : Value) (n : Nat) (X : Nat → Int) (_ : ∀ o, I64 (X o)) (w : World) (hv : Pts w v n X) :
    Calls Try.prog 10 #[v] w fun e w' => e = .returned (.bool true) ∧ Below w.heap.size w w' := by
  by_cases hn : 2000 < n
  · exact vb_far v n X hn w hv
  by_cases h0 : n = 0
  · subst h0; exact vb_none v X w hv
  rcases hv with ⟨h, _⟩ | ⟨b, off, c, rfl, g1, g2, g3, g4, g5⟩
  · exact absurd h h0
  · exact vb_some n b off c X (by omega) g1 g2 g3 w g4 g5
end Go.Proofs.Ytodgnpggcdjgaaa
