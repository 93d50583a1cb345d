/- What vec.Join, Has and Bound answer: contracts, for all boxes and points of 64 bits. -/
import Derived.Test.YtdemcleibpgglaaHeld
import Derived.Deep.LoopGhost
import Derived.Deep.DeepCutAuto
namespace Go.Proofs.Ytdemcleibpgglaa
open Go.RowKit
set_option maxRecDepth 100000
set_option linter.unusedSimpArgs false
set_option linter.unusedVariables false
theorem fro_drew {W : World} {b : Nat} (h : ∀ o, W.frozen? ⟨b, o, none⟩ = false) : ∀ o, W.drew.frozen? ⟨b, o, none⟩ = false := h
theorem lt_drew {W : World} {b : Nat} (h : b < W.heap.size) : b < W.drew.heap.size := h
theorem sz_drew {W : World} {n : Nat} (h : W.heap.size = n) : W.drew.heap.size = n := h
theorem s6_blk {w : World} {b : Nat} {u0 u1 u2 u3 u4 u5 : Value} {cs : Array Value} (hs : cs.size = 6) (h : ∀ o, w.cell? ⟨b, o, none⟩ = cs[o]?) :
    ∀ o, ((((((w.setCell ⟨b, 0, none⟩ u0).setCell ⟨b, 1, none⟩ u1).setCell ⟨b, 2, none⟩ u2).setCell ⟨b, 3, none⟩ u3).setCell ⟨b, 4, none⟩ u4).setCell ⟨b, 5, none⟩ u5).cell? ⟨b, o, none⟩ = (#[u0, u1, u2, u3, u4, u5] : Array Value)[o]? := by
  intro o
  have hh : ∀ k, (hk : k < cs.size) → w.cell? ⟨b, k, none⟩ = some (cs[k]'hk) := fun k hk => by rw [h k, Array.getElem?_eq_getElem hk]
  match o with
  | 0 => rw [World.cell?_setCell_other _ _ _ _ (by simp), World.cell?_setCell_other _ _ _ _ (by simp), World.cell?_setCell_other _ _ _ _ (by simp), World.cell?_setCell_other _ _ _ _ (by simp), World.cell?_setCell_other _ _ _ _ (by simp)]; exact World.cell?_setCell_same _ _ _ (hh 0 (by omega))
  | 1 => rw [World.cell?_setCell_other _ _ _ _ (by simp), World.cell?_setCell_other _ _ _ _ (by simp), World.cell?_setCell_other _ _ _ _ (by simp), World.cell?_setCell_other _ _ _ _ (by simp)]; exact World.cell?_setCell_same _ _ _ ((World.cell?_setCell_other _ _ _ _ (by simp)).trans (hh 1 (by omega)))
  | 2 => rw [World.cell?_setCell_other _ _ _ _ (by simp), World.cell?_setCell_other _ _ _ _ (by simp), World.cell?_setCell_other _ _ _ _ (by simp)]; exact World.cell?_setCell_same _ _ _ ((World.cell?_setCell_other _ _ _ _ (by simp)).trans ((World.cell?_setCell_other _ _ _ _ (by simp)).trans (hh 2 (by omega))))
  | 3 => rw [World.cell?_setCell_other _ _ _ _ (by simp), World.cell?_setCell_other _ _ _ _ (by simp)]; exact World.cell?_setCell_same _ _ _ ((World.cell?_setCell_other _ _ _ _ (by simp)).trans ((World.cell?_setCell_other _ _ _ _ (by simp)).trans ((World.cell?_setCell_other _ _ _ _ (by simp)).trans (hh 3 (by omega)))))
  | 4 => rw [World.cell?_setCell_other _ _ _ _ (by simp)]; exact World.cell?_setCell_same _ _ _ ((World.cell?_setCell_other _ _ _ _ (by simp)).trans ((World.cell?_setCell_other _ _ _ _ (by simp)).trans ((World.cell?_setCell_other _ _ _ _ (by simp)).trans ((World.cell?_setCell_other _ _ _ _ (by simp)).trans (hh 4 (by omega))))))
  | 5 => exact World.cell?_setCell_same _ _ _ ((World.cell?_setCell_other _ _ _ _ (by simp)).trans ((World.cell?_setCell_other _ _ _ _ (by simp)).trans ((World.cell?_setCell_other _ _ _ _ (by simp)).trans ((World.cell?_setCell_other _ _ _ _ (by simp)).trans ((World.cell?_setCell_other _ _ _ _ (by simp)).trans (hh 5 (by omega)))))))
  | o + 6 =>
    rw [World.cell?_setCell_other _ _ _ _ (by simp), World.cell?_setCell_other _ _ _ _ (by simp), World.cell?_setCell_other _ _ _ _ (by simp), World.cell?_setCell_other _ _ _ _ (by simp), World.cell?_setCell_other _ _ _ _ (by simp), World.cell?_setCell_other _ _ _ _ (by simp), h]
    rw [Array.getElem?_eq_none (by omega), Array.getElem?_eq_none (by simp)]
theorem s6_far {w : World} {b b' : Nat} {u0 u1 u2 u3 u4 u5 : Value} {cs : Array Value} (hn : b ≠ b') (h : ∀ o, w.cell? ⟨b', o, none⟩ = cs[o]?) :
    ∀ o, ((((((w.setCell ⟨b, 0, none⟩ u0).setCell ⟨b, 1, none⟩ u1).setCell ⟨b, 2, none⟩ u2).setCell ⟨b, 3, none⟩ u3).setCell ⟨b, 4, none⟩ u4).setCell ⟨b, 5, none⟩ u5).cell? ⟨b', o, none⟩ = cs[o]? := by
  intro o
  rw [World.cell?_setCell_other _ _ _ _ (by simp [hn]), World.cell?_setCell_other _ _ _ _ (by simp [hn]), World.cell?_setCell_other _ _ _ _ (by simp [hn]), World.cell?_setCell_other _ _ _ _ (by simp [hn]), World.cell?_setCell_other _ _ _ _ (by simp [hn]), World.cell?_setCell_other _ _ _ _ (by simp [hn])]; exact h o
/-- A box, as a value. -/
abbrev B6 (a b c d e f : Int) : Value := .agg #[.int .i64 a, .int .i64 b, .int .i64 c, .int .i64 d, .int .i64 e, .int .i64 f]
theorem join_any (a b c d e f a' b' c' d' e' f' : Int) (w : World) :
    Calls Try.prog 50 #[B6 a b c d e f, B6 a' b' c' d' e' f'] w fun r w' => r = .returned (B6 (mn a a') (mn b b') (mn c c') (mx d d') (mx e e') (mx f f')) ∧ Below w.heap.size w w' := by
  go_enter Try.func50, Try.ntmps50
  go_wp2
  go_returns
  exact ⟨rfl, by go_grown⟩
def btw (n f t : Int) : Bool := decide (f ≤ n) && decide (n ≤ t)
theorem between_any (n f t : Int) (w : World) : Calls Try.prog 51 #[.int .i64 n, .int .i64 f, .int .i64 t] w fun r w' => r = .returned (.bool (btw n f t)) ∧ Below w.heap.size w w' := by
  unfold btw
  by_cases h : f ≤ n
  · have h' : decide (f ≤ n) = true := decide_eq_true h
    clear h
    go_enter Try.func51, Try.ntmps51
    go_wp2
    go_returns
    exact ⟨by simp [*], by go_grown⟩
  · have h' : decide (f ≤ n) = false := decide_eq_false h
    clear h
    go_enter Try.func51, Try.ntmps51
    go_wp2
    go_returns
    exact ⟨by simp [*], by go_grown⟩
/-- Is a point within a box? -/
def hasB (a b c d e f x y z : Int) : Bool := btw x a d && btw y b e && btw z c f
theorem has_any (a b c d e' f x y z : Int) (w : World) : Calls Try.prog 27 #[B6 a b c d e' f, V3 x y z] w fun r w' => r = .returned (.bool (hasB a b c d e' f x y z)) ∧ Below w.heap.size w w' := by
  unfold hasB
  have K0 := Lib.hid (between_any x a d)
  have K1 := Lib.hid (between_any y b e')
  have K2 := Lib.hid (between_any z c f)
  obtain ⟨p, hp⟩ : ∃ p, btw x a d = p := ⟨_, rfl⟩
  obtain ⟨q, hq⟩ : ∃ p, btw y b e' = p := ⟨_, rfl⟩
  obtain ⟨r, hr⟩ : ∃ p, btw z c f = p := ⟨_, rfl⟩
  rw [hp] at K0 ⊢
  rw [hq] at K1 ⊢
  rw [hr] at K2 ⊢
  clear hp hq hr
  cases p <;> cases q <;>
  · go_enter Try.func27, Try.ntmps27
    go_wp2_with (first
      | (go_at_call 51; ((with_reducible refine (K0.out _).mono ?_); rintro e w1 ⟨rfl, hb1⟩; have B1 : ∀ o, w1.cell? ⟨w.heap.size, o, none⟩ = (#[.int .i64 a, .int .i64 b, .int .i64 c, .int .i64 d, .int .i64 e', .int .i64 f] : Array Value)[o]? := blk_later (by simp) hb1 (by (repeat (first | (with_reducible assumption) | (focus ((with_reducible refine new_at ?_ _ _); (repeat (first | (with_reducible rfl) | (with_reducible refine sz1 ?_))); done)) | (with_reducible refine blk_alloc (by simp) _ ?_) | (with_reducible refine blk_drew ?_)))); have P1 : ∀ o, w1.cell? ⟨w.heap.size + 1, o, none⟩ = (#[.int .i64 x, .int .i64 y, .int .i64 z] : Array Value)[o]? := blk_later (by simp) hb1 (by (repeat (first | (with_reducible assumption) | (focus ((with_reducible refine new_at ?_ _ _); (repeat (first | (with_reducible rfl) | (with_reducible refine sz1 ?_))); done)) | (with_reducible refine blk_alloc (by simp) _ ?_) | (with_reducible refine blk_drew ?_))))))
      | (go_at_call 51; ((with_reducible refine (K1.out _).mono ?_); rintro e w2 ⟨rfl, hb2⟩; have B2 := blk_later (by simp) hb2 B1; have P2 := blk_later (by simp) hb2 P1))
      | (go_at_call 51; ((with_reducible refine (K2.out _).mono ?_); rintro e w3 ⟨rfl, hb3⟩)))
    go_returns
    exact ⟨by simp, by (repeat' (first | (with_reducible exact Below.refl _ _) | (with_reducible refine bstep (by with_reducible assumption) ?_) | (with_reducible refine Below.alloc ?_ ?_ _) | (with_reducible refine Below.drew ?_) | (with_reducible refine below_drewN ?_ _) | (with_reducible refine Below.setCell ?_ ?_ _) | go_size))⟩
/-- The least and the greatest of the points' parts: point 0 and k more. -/
def lo (X : Nat → Int) (c : Nat) : Nat → Int
  | 0 => X c
  | k + 1 => mn (lo X c k) (X ((k + 1) * 3 + c))
def hi (X : Nat → Int) (c : Nat) : Nat → Int
  | 0 => X c
  | k + 1 => mx (hi X c k) (X ((k + 1) * 3 + c))
theorem lo_le (X : Nat → Int) (c : Nat) : ∀ k j, j ≤ k → lo X c k ≤ X (j * 3 + c)
  | 0, j, h => by obtain rfl : j = 0 := by omega
                  simp [lo]
  | k + 1, j, h => by
    simp only [lo]
    have e : mn (lo X c k) (X ((k + 1) * 3 + c)) ≤ lo X c k ∧ mn (lo X c k) (X ((k + 1) * 3 + c)) ≤ X ((k + 1) * 3 + c) := by unfold mn; split <;> omega
    rcases Nat.lt_or_ge k j with h' | h'
    · obtain rfl : j = k + 1 := by omega
      exact e.2
    · exact Int.le_trans e.1 (lo_le X c k j h')
theorem le_hi (X : Nat → Int) (c : Nat) : ∀ k j, j ≤ k → X (j * 3 + c) ≤ hi X c k
  | 0, j, h => by obtain rfl : j = 0 := by omega
                  simp [hi]
  | k + 1, j, h => by
    simp only [hi]
    have e : hi X c k ≤ mx (hi X c k) (X ((k + 1) * 3 + c)) ∧ X ((k + 1) * 3 + c) ≤ mx (hi X c k) (X ((k + 1) * 3 + c)) := by unfold mx; split <;> omega
    rcases Nat.lt_or_ge k j with h' | h'
    · obtain rfl : j = k + 1 := by omega
      exact e.2
    · exact Int.le_trans (le_hi X c k j h') e.1
theorem lo_at (X : Nat → Int) (c : Nat) : ∀ k, ∃ j, j ≤ k ∧ X (j * 3 + c) = lo X c k
  | 0 => ⟨0, by omega, by simp [lo]⟩
  | k + 1 => by
    obtain ⟨j, h1, h2⟩ := lo_at X c k
    simp only [lo]
    unfold mn; split
    · exact ⟨k + 1, by omega, rfl⟩
    · exact ⟨j, by omega, h2⟩
theorem hi_at (X : Nat → Int) (c : Nat) : ∀ k, ∃ j, j ≤ k ∧ X (j * 3 + c) = hi X c k
  | 0 => ⟨0, by omega, by simp [hi]⟩
  | k + 1 => by
    obtain ⟨j, h1, h2⟩ := hi_at X c k
    simp only [hi]
    unfold mx; split
    · exact ⟨k + 1, by omega, rfl⟩
    · exact ⟨j, by omega, h2⟩
end Go.Proofs.Ytdemcleibpgglaa
