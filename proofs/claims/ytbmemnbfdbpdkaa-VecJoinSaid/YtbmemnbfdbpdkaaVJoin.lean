/- The law on joined boxes, walked: for all slices of points and points of 64 bits it answers true. -/
import Derived.Test.YtbmemnbfdbpdkaaCopy
import Derived.Test.YtbmemnbfdbpdkaaVBound
namespace Go.Proofs.Ytbmemnbfdbpdkaa
open Go.RowKit
set_option maxRecDepth 100000
set_option linter.unusedSimpArgs false
set_option linter.unusedVariables false
/-- Two rows of points, one behind the other. -/
def cat (X Y : Nat → Int) (m : Nat) (o : Nat) : Int := if o < m then X o else Y (o - m)
theorem cat_fst {X Y : Nat → Int} {n j c : Nat} (h : j < n) (hc : c < 3) : cat X Y (n * 3) (j * 3 + c) = X (j * 3 + c) := by unfold cat; rw [if_pos (by omega)]
theorem cat_snd {X Y : Nat → Int} {n j c : Nat} : cat X Y (n * 3) ((n + j) * 3 + c) = Y (j * 3 + c) := by unfold cat; rw [if_neg (by omega)]; congr 1; omega
theorem lo_cat (X Y : Nat → Int) (c n m : Nat) (hc : c < 3) (hn : 0 < n) (hm : 0 < m) : lo (cat X Y (n * 3)) c (n + m - 1) = mn (lo X c (n - 1)) (lo Y c (m - 1)) := by
  obtain ⟨j, h1, h2⟩ := lo_at (cat X Y (n * 3)) c (n + m - 1)
  obtain ⟨j1, g1, g2⟩ := lo_at X c (n - 1)
  obtain ⟨j2, k1, k2⟩ := lo_at Y c (m - 1)
  have a := lo_le (cat X Y (n * 3)) c (n + m - 1) j1 (by omega)
  have b := lo_le (cat X Y (n * 3)) c (n + m - 1) (n + j2) (by omega)
  rw [cat_fst (by omega) hc, g2] at a
  rw [cat_snd, k2] at b
  have e : mn (lo X c (n - 1)) (lo Y c (m - 1)) ≤ lo (cat X Y (n * 3)) c (n + m - 1) := by
    rw [← h2]
    rcases Nat.lt_or_ge j n with h | h
    · rw [cat_fst h hc]
      have := lo_le X c (n - 1) j (by omega)
      unfold mn; split <;> omega
    · obtain ⟨i, rfl⟩ : ∃ i, j = n + i := ⟨j - n, by omega⟩
      rw [cat_snd]
      have := lo_le Y c (m - 1) i (by omega)
      unfold mn; split <;> omega
  have f : lo (cat X Y (n * 3)) c (n + m - 1) ≤ mn (lo X c (n - 1)) (lo Y c (m - 1)) := by unfold mn; split <;> omega
  omega
theorem hi_cat (X Y : Nat → Int) (c n m : Nat) (hc : c < 3) (hn : 0 < n) (hm : 0 < m) : hi (cat X Y (n * 3)) c (n + m - 1) = mx (hi X c (n - 1)) (hi Y c (m - 1)) := by
  obtain ⟨j, h1, h2⟩ := hi_at (cat X Y (n * 3)) c (n + m - 1)
  obtain ⟨j1, g1, g2⟩ := hi_at X c (n - 1)
  obtain ⟨j2, k1, k2⟩ := hi_at Y c (m - 1)
  have a := le_hi (cat X Y (n * 3)) c (n + m - 1) j1 (by omega)
  have b := le_hi (cat X Y (n * 3)) c (n + m - 1) (n + j2) (by omega)
  rw [cat_fst (by omega) hc, g2] at a
  rw [cat_snd, k2] at b
  have e : hi (cat X Y (n * 3)) c (n + m - 1) ≤ mx (hi X c (n - 1)) (hi Y c (m - 1)) := by
    rw [← h2]
    rcases Nat.lt_or_ge j n with h | h
    · rw [cat_fst h hc]
      have := le_hi X c (n - 1) j (by omega)
      unfold mx; split <;> omega
    · obtain ⟨i, rfl⟩ : ∃ i, j = n + i := ⟨j - n, by omega⟩
      rw [cat_snd]
      have := le_hi Y c (m - 1) i (by omega)
      unfold mx; split <;> omega
  have f : mx (hi X c (n - 1)) (hi Y c (m - 1)) ≤ hi (cat X Y (n * 3)) c (n + m - 1) := by unfold mx; split <;> omega
  omega
theorem mn_comm (a b : Int) : mn a b = mn b a := by unfold mn; split <;> split <;> omega
theorem mx_comm (a b : Int) : mx a b = mx b a := by unfold mx; split <;> split <;> omega
theorem has_more {a b c d e f a' b' c' d' e' f' x y z : Int} (h : hasB a b c d e f x y z = true ∨ hasB a' b' c' d' e' f' x y z = true) : hasB (mn a a') (mn b b') (mn c c') (mx d d') (mx e e') (mx f f') x y z = true := by
  simp only [hasB, btw, Bool.and_eq_true, decide_eq_true_eq] at *
  unfold mn mx
  rcases h with h | h <;> refine ⟨⟨⟨?_, ?_⟩, ⟨?_, ?_⟩⟩, ⟨?_, ?_⟩⟩ <;> split <;> omega
theorem vj_far (va vb : Value) (na nb : Nat) (X Y : Nat → Int) (x y z : Int) (h : 1000 < na ∨ 1000 < nb) (w : World) (ha : Pts w va na X) (hb : Pts w vb nb Y) :
    Calls Try.prog 11 #[va, vb, V3 x y z] w fun e w' => e = .returned (.bool true) ∧ Below w.heap.size w w' := by
  obtain ⟨p, c, rfl⟩ : ∃ p c, va = .slice p na c := by rcases ha with ⟨rfl, p, c, rfl⟩ | ⟨b, off, c, rfl, _⟩ <;> exact ⟨_, _, rfl⟩
  obtain ⟨q, d, rfl⟩ : ∃ p c, vb = .slice p nb c := by rcases hb with ⟨rfl, p, c, rfl⟩ | ⟨b, off, c, rfl, _⟩ <;> exact ⟨_, _, rfl⟩
  clear ha hb
  go_enter Try.func11, Try.ntmps11
  by_cases h1 : (1000 : Int) < (na : Int)
  · go_wp2_with (go_at_call 20; ((with_reducible refine (alive02_any _).mono ?_); rintro e w1 ⟨rfl, hb1⟩))
    go_returns
    exact ⟨by simp, by (repeat' (first | (with_reducible exact Below.refl _ _) | (with_reducible refine bstep (by with_reducible assumption) ?_) | (with_reducible refine Below.alloc ?_ ?_ _) | (with_reducible refine Below.drew ?_) | (with_reducible refine below_drewN ?_ _) | (with_reducible refine Below.setCell ?_ ?_ _) | go_size))⟩
  · have h2 : (1000 : Int) < (nb : Int) := by omega
    go_wp2_with (go_at_call 20; ((with_reducible refine (alive02_any _).mono ?_); rintro e w1 ⟨rfl, hb1⟩))
    go_returns
    exact ⟨by simp, by (repeat' (first | (with_reducible exact Below.refl _ _) | (with_reducible refine bstep (by with_reducible assumption) ?_) | (with_reducible refine Below.alloc ?_ ?_ _) | (with_reducible refine Below.drew ?_) | (with_reducible refine below_drewN ?_ _) | (with_reducible refine Below.setCell ?_ ?_ _) | go_size))⟩
theorem bound_is (n : Nat) (v : Value) (X : Nat → Int) (w : World) (hv : Pts w v n X) : ∃ (t : Bool) (a b c d e f : Int), t = decide (0 < n) ∧ ∀ w', Below w.heap.size w w' → Calls Try.prog 29 #[v] w' fun r w'' => r = .returned (.tuple #[B6 a b c d e f, .bool t]) ∧ Below w'.heap.size w' w'' := by
  rcases Nat.eq_zero_or_pos n with rfl | h0
  · rcases hv with ⟨_, p, c, rfl⟩ | ⟨b, off, c, rfl, h, _⟩
    · exact ⟨false, 0, 0, 0, 0, 0, 0, rfl, fun w' _ => bound_none p c w'⟩
    · omega
  · refine ⟨true, _, _, _, _, _, _, by simp [h0], fun w' hb => bound_some n v X h0 w' ?_⟩
    rcases hv with ⟨h, _⟩ | ⟨b, off, c, h1, h2, h3, h4, h5, h6⟩
    · omega
    · exact .inr ⟨b, off, c, h1, h2, h3, h4, by have := hb.size; omega, fun o ho => (hb.cell (p := ⟨b, off + o, none⟩) h5).trans (h6 o ho)⟩
theorem vj_empty (va vb : Value) (na nb : Nat) (X Y : Nat → Int) (x y z : Int) (h : na ≤ 1000 ∧ nb ≤ 1000) (h0 : na = 0 ∨ nb = 0) (w : World) (ha : Pts w va na X) (hb : Pts w vb nb Y) :
    Calls Try.prog 11 #[va, vb, V3 x y z] w fun e w' => e = .returned (.bool true) ∧ Below w.heap.size w w' := by
  obtain ⟨ta, a0, a1, a2, a3, a4, a5, hta, KA⟩ := bound_is na va X w ha
  obtain ⟨tb, b0, b1, b2, b3, b4, b5, htb, KB⟩ := bound_is nb vb Y w hb
  obtain ⟨p, c, rfl⟩ : ∃ p c, va = .slice p na c := by rcases ha with ⟨rfl, p, c, rfl⟩ | ⟨b, off, c, rfl, _⟩ <;> exact ⟨_, _, rfl⟩
  obtain ⟨q, d, rfl⟩ : ∃ p c, vb = .slice p nb c := by rcases hb with ⟨rfl, p, c, rfl⟩ | ⟨b, off, c, rfl, _⟩ <;> exact ⟨_, _, rfl⟩
  have hh : ta = false ∨ (ta = true ∧ tb = false) := by
    rw [hta, htb]
    rcases Nat.eq_zero_or_pos na with e | e
    · left; simp [e]
    · right; exact ⟨by simp [e], by simp; omega⟩
  have h1 : ¬ (1000 : Int) < (na : Int) := by omega
  have h2 : ¬ (1000 : Int) < (nb : Int) := by omega
  have KA := Lib.hid KA
  have KB := Lib.hid KB
  clear ha hb hta htb
  rcases hh with rfl | ⟨rfl, rfl⟩ <;>
  · go_enter Try.func11, Try.ntmps11
    go_wp2_with (first
      | (go_at_call 20; ((with_reducible refine (alive02_any _).mono ?_); rintro e w1 ⟨rfl, hb1⟩; have s1 : w.heap.size ≤ w1.heap.size := Nat.le_trans (by rw [World.size_alloc]; omega) hb1.size))
      | (go_at_call 29; ((with_reducible refine (KA.out _ ?_).mono ?_); (focus ((repeat' (first | (with_reducible exact Below.refl _ _) | (with_reducible refine bstep (by with_reducible assumption) ?_) | (with_reducible refine Below.alloc ?_ ?_ _) | (with_reducible refine Below.drew ?_) | (with_reducible refine below_drewN ?_ _) | (with_reducible refine Below.setCell ?_ ?_ _) | go_size)))); rintro e w2 ⟨rfl, hb2⟩; have s2 : w.heap.size ≤ w2.heap.size := Nat.le_trans s1 hb2.size))
      | (go_at_call 29; ((with_reducible refine (KB.out _ ?_).mono ?_); (focus ((repeat' (first | (with_reducible exact Below.refl _ _) | (with_reducible refine bstep (by with_reducible assumption) ?_) | (with_reducible refine Below.alloc ?_ ?_ _) | (with_reducible refine Below.drew ?_) | (with_reducible refine below_drewN ?_ _) | (with_reducible refine Below.setCell ?_ ?_ _) | go_size)))); rintro e w3 ⟨rfl, hb3⟩; have s3 : w.heap.size ≤ w3.heap.size := Nat.le_trans s2 (Nat.le_trans (by rw [World.size_alloc]; omega) hb3.size))))
    go_returns
    exact ⟨by simp, by (repeat' (first | (with_reducible exact Below.refl _ _) | (with_reducible refine bstep (by with_reducible assumption) ?_) | (with_reducible refine Below.alloc ?_ ?_ _) | (with_reducible refine Below.drew ?_) | (with_reducible refine below_drewN ?_ _) | (with_reducible refine Below.setCell ?_ ?_ _) | go_size))⟩
theorem nw_cat (na nb : Nat) (X Y : Nat → Int) (o : Nat) (ho : o < (na + nb) * 3) : (nw na X ++ nw nb Y)[o]? = some (.int .i64 (cat X Y (na * 3) o)) := by
  have l1 : (nw na X).length = na * 3 := by simp [nw]
  unfold cat
  split
  · rename_i h
    rw [List.getElem?_append_left (by omega), nw, List.getElem?_map, List.getElem?_range h]; rfl
  · rename_i h
    rw [List.getElem?_append_right (by omega), l1, nw, List.getElem?_map, List.getElem?_range (by omega)]; rfl
theorem blk_below {B b : Nat} {w w' : World} {cs : Array Value} (hb : Below B w w') (hl : b < B) (h : ∀ o, w.cell? ⟨b, o, none⟩ = cs[o]?) : ∀ o, w'.cell? ⟨b, o, none⟩ = cs[o]? := fun o => (hb.cell (p := ⟨b, o, none⟩) hl).trans (h o)
set_option maxHeartbeats 8000000 in
theorem vj_both (na nb ba bb oa ob ca cb : Nat) (X Y : Nat → Int) (x y z : Int) (hn : na ≤ 1000) (hm : nb ≤ 1000) (w : World) (g1 : 0 < na) (g2 : na ≤ ca) (g3 : ca ≤ maxLen) (g4 : ba < w.heap.size) (g5 : ∀ o, o < na * 3 → w.cell? ⟨ba, oa + o, none⟩ = some (.int .i64 (X o)))
    (k1 : 0 < nb) (k2 : nb ≤ cb) (k3 : cb ≤ maxLen) (k4 : bb < w.heap.size) (k5 : ∀ o, o < nb * 3 → w.cell? ⟨bb, ob + o, none⟩ = some (.int .i64 (Y o))) :
    Calls Try.prog 11 #[.slice (some ⟨ba, oa, none⟩) na ca, .slice (some ⟨bb, ob, none⟩) nb cb, V3 x y z] w fun e w' => e = .returned (.bool true) ∧ Below w.heap.size w w' := by
  have BA : ∀ w', Below w.heap.size w w' → Calls Try.prog 29 #[.slice (some ⟨ba, oa, none⟩) na ca] w' fun e w'' => e = .returned (.tuple #[B6 (lo X 0 (na - 1)) (lo X 1 (na - 1)) (lo X 2 (na - 1)) (hi X 0 (na - 1)) (hi X 1 (na - 1)) (hi X 2 (na - 1)), .bool true]) ∧ Below w'.heap.size w' w'' :=
    fun w' hb => bound_some na _ X g1 w' (.inr ⟨ba, oa, ca, rfl, g1, g2, g3, by have := hb.size; omega, fun o ho => (hb.cell (p := ⟨ba, oa + o, none⟩) g4).trans (g5 o ho)⟩)
  have BB : ∀ w', Below w.heap.size w w' → Calls Try.prog 29 #[.slice (some ⟨bb, ob, none⟩) nb cb] w' fun e w'' => e = .returned (.tuple #[B6 (lo Y 0 (nb - 1)) (lo Y 1 (nb - 1)) (lo Y 2 (nb - 1)) (hi Y 0 (nb - 1)) (hi Y 1 (nb - 1)) (hi Y 2 (nb - 1)), .bool true]) ∧ Below w'.heap.size w' w'' :=
    fun w' hb => bound_some nb _ Y k1 w' (.inr ⟨bb, ob, cb, rfl, k1, k2, k3, by have := hb.size; omega, fun o ho => (hb.cell (p := ⟨bb, ob + o, none⟩) k4).trans (k5 o ho)⟩)
  have CA : ∀ w', Below w.heap.size w w' → Calls Try.prog 28 #[.slice (some ⟨ba, oa, none⟩) na ca] w' _ :=
    fun w' hb => copy_any na ba oa ca X (by omega) g1 g2 g3 w' (by have := hb.size; omega) (fun o ho => (hb.cell (p := ⟨ba, oa + o, none⟩) g4).trans (g5 o ho))
  have BC := fun v w' (hv : Pts w' v (na + nb) (cat X Y (na * 3))) => bound_some (na + nb) v (cat X Y (na * 3)) (by omega) w' hv
  rw [lo_cat X Y 0 na nb (by omega) g1 k1, lo_cat X Y 1 na nb (by omega) g1 k1, lo_cat X Y 2 na nb (by omega) g1 k1, hi_cat X Y 0 na nb (by omega) g1 k1, hi_cat X Y 1 na nb (by omega) g1 k1, hi_cat X Y 2 na nb (by omega) g1 k1] at BC
  have HH : (hasB (lo X 0 (na - 1)) (lo X 1 (na - 1)) (lo X 2 (na - 1)) (hi X 0 (na - 1)) (hi X 1 (na - 1)) (hi X 2 (na - 1)) x y z = true ∨ hasB (lo Y 0 (nb - 1)) (lo Y 1 (nb - 1)) (lo Y 2 (nb - 1)) (hi Y 0 (nb - 1)) (hi Y 1 (nb - 1)) (hi Y 2 (nb - 1)) x y z = true) → _ := has_more
  obtain ⟨a0, e0⟩ : ∃ l, lo X 0 (na - 1) = l := ⟨_, rfl⟩
  obtain ⟨a1, e1⟩ : ∃ l, lo X 1 (na - 1) = l := ⟨_, rfl⟩
  obtain ⟨a2, e2⟩ : ∃ l, lo X 2 (na - 1) = l := ⟨_, rfl⟩
  obtain ⟨a3, e3⟩ : ∃ l, hi X 0 (na - 1) = l := ⟨_, rfl⟩
  obtain ⟨a4, e4⟩ : ∃ l, hi X 1 (na - 1) = l := ⟨_, rfl⟩
  obtain ⟨a5, e5⟩ : ∃ l, hi X 2 (na - 1) = l := ⟨_, rfl⟩
  obtain ⟨b0, f0⟩ : ∃ l, lo Y 0 (nb - 1) = l := ⟨_, rfl⟩
  obtain ⟨b1, f1⟩ : ∃ l, lo Y 1 (nb - 1) = l := ⟨_, rfl⟩
  obtain ⟨b2, f2⟩ : ∃ l, lo Y 2 (nb - 1) = l := ⟨_, rfl⟩
  obtain ⟨b3, f3⟩ : ∃ l, hi Y 0 (nb - 1) = l := ⟨_, rfl⟩
  obtain ⟨b4, f4⟩ : ∃ l, hi Y 1 (nb - 1) = l := ⟨_, rfl⟩
  obtain ⟨b5, f5⟩ : ∃ l, hi Y 2 (nb - 1) = l := ⟨_, rfl⟩
  rw [e0, e1, e2, e3, e4, e5] at BA
  rw [f0, f1, f2, f3, f4, f5] at BB
  rw [e0, e1, e2, e3, e4, e5, f0, f1, f2, f3, f4, f5] at BC HH
  have J1 := fun w => join_any a0 a1 a2 a3 a4 a5 b0 b1 b2 b3 b4 b5 w
  have J2 := fun w => join_any b0 b1 b2 b3 b4 b5 a0 a1 a2 a3 a4 a5 w
  rw [mn_comm b0, mn_comm b1, mn_comm b2, mx_comm b3, mx_comm b4, mx_comm b5] at J2
  have H1 := has_any a0 a1 a2 a3 a4 a5 x y z
  have H2 := has_any b0 b1 b2 b3 b4 b5 x y z
  have H3 := has_any (mn a0 b0) (mn a1 b1) (mn a2 b2) (mx a3 b3) (mx a4 b4) (mx a5 b5) x y z
  obtain ⟨u1, eu1⟩ : ∃ t, hasB a0 a1 a2 a3 a4 a5 x y z = t := ⟨_, rfl⟩
  obtain ⟨u2, eu2⟩ : ∃ t, hasB b0 b1 b2 b3 b4 b5 x y z = t := ⟨_, rfl⟩
  obtain ⟨u3, eu3⟩ : ∃ t, hasB (mn a0 b0) (mn a1 b1) (mn a2 b2) (mx a3 b3) (mx a4 b4) (mx a5 b5) x y z = t := ⟨_, rfl⟩
  rw [eu1, eu2, eu3] at HH
  rw [eu1] at H1
  rw [eu2] at H2
  rw [eu3] at H3
  obtain ⟨c0, q0⟩ : ∃ l, mn a0 b0 = l := ⟨_, rfl⟩
  obtain ⟨c1, q1⟩ : ∃ l, mn a1 b1 = l := ⟨_, rfl⟩
  obtain ⟨c2, q2⟩ : ∃ l, mn a2 b2 = l := ⟨_, rfl⟩
  obtain ⟨c3, q3⟩ : ∃ l, mx a3 b3 = l := ⟨_, rfl⟩
  obtain ⟨c4, q4⟩ : ∃ l, mx a4 b4 = l := ⟨_, rfl⟩
  obtain ⟨c5, q5⟩ : ∃ l, mx a5 b5 = l := ⟨_, rfl⟩
  rw [q0, q1, q2, q3, q4, q5] at J1 J2 BC H3
  have BA := Lib.hid BA
  have BB := Lib.hid BB
  have BC := Lib.hid BC
  have CA := Lib.hid CA
  have J1 := Lib.hid J1
  have J2 := Lib.hid J2
  have H1 := Lib.hid H1
  have H2 := Lib.hid H2
  have H3 := Lib.hid H3
  have G5 := Lib.hid g5
  have K5 := Lib.hid k5
  have n1 : ¬ (1000 : Int) < (na : Int) := by omega
  have n2 : ¬ (1000 : Int) < (nb : Int) := by omega
  obtain ⟨i0, ji, jz0, jz1, jz2⟩ := infoV
  clear e0 e1 e2 e3 e4 e5 f0 f1 f2 f3 f4 f5 eu1 eu2 eu3 q0 q1 q2 q3 q4 q5 g5 k5
  have HU : ∀ h : u1 = true ∨ u2 = true, u3 = true := HH
  cases u1 <;> cases u2
  rotate_left
  · obtain rfl : u3 = true := HU (.inr rfl)
    clear HH HU
    go_enter Try.func11, Try.ntmps11
    go_wp2_with (first
      | (go_at_call 20; ((with_reducible refine (alive02_any _).mono ?_); rintro e w1 ⟨rfl, hb1⟩; have P1 : ∀ o, w1.cell? ⟨w.heap.size, o, none⟩ = (#[.int .i64 x, .int .i64 y, .int .i64 z] : Array Value)[o]? := blk_later (by simp) hb1 (by (repeat (first | (with_reducible assumption) | (focus ((with_reducible refine new_at ?_ _ _); (repeat (first | (with_reducible rfl) | (with_reducible refine sz1 ?_))); done)) | (with_reducible refine blk_alloc (by simp) _ ?_) | (with_reducible refine blk_drew ?_)))); have s1 : w.heap.size < w1.heap.size := blk_lt (by simp) P1))
      | (go_at_call 29; ((with_reducible refine (BA.out _ ?_).mono ?_); (focus ((repeat' (first | (with_reducible exact Below.refl _ _) | (with_reducible refine bstep (by with_reducible assumption) ?_) | (with_reducible refine Below.alloc ?_ ?_ _) | (with_reducible refine Below.drew ?_) | (with_reducible refine below_drewN ?_ _) | (with_reducible refine Below.setCell ?_ ?_ _) | go_size)))); rintro e w2 ⟨rfl, hb2⟩; have P2 := blk_later (by simp) hb2 P1; have s2 : w.heap.size < w2.heap.size := blk_lt (by simp) P2; clear P1))
      | (go_at_call 29; ((with_reducible refine (BB.out _ ?_).mono ?_); (focus ((repeat' (first | (with_reducible exact Below.refl _ _) | (with_reducible refine bstep (by with_reducible assumption) ?_) | (with_reducible refine Below.alloc ?_ ?_ _) | (with_reducible refine Below.drew ?_) | (with_reducible refine below_drewN ?_ _) | (with_reducible refine Below.setCell ?_ ?_ _) | go_size)))); rintro e w3 ⟨rfl, hb3⟩; have P3 := blk_later (by simp) hb3 (blk_alloc (by simp) _ P2); have X3 := blk_later (by simp) hb3 (new_at rfl _ _); have s3 : w.heap.size < w3.heap.size := blk_lt (by simp) P3; have s3x : w2.heap.size < w3.heap.size := blk_lt (by simp) X3; clear P2))
      | (go_at_call 28; ((with_reducible refine (CA.out _ ?_).mono ?_); (focus ((repeat' (first | (with_reducible exact Below.refl _ _) | (with_reducible refine bstep (by with_reducible assumption) ?_) | (with_reducible refine Below.alloc ?_ ?_ _) | (with_reducible refine Below.drew ?_) | (with_reducible refine below_drewN ?_ _) | (with_reducible refine Below.setCell ?_ ?_ _) | go_size)))); rintro e w4 ⟨g, cap, rfl, hg, hPt, hb4, own4, hg4⟩; have P4 := blk_later (by simp) hb4 (blk_alloc (by simp) _ P3); have X4 := blk_later (by simp) hb4 (blk_alloc (by simp) _ X3); have Y4 := blk_later (by simp) hb4 (new_at rfl _ _); have s4 : w3.heap.size < w4.heap.size := blk_lt (by simp) Y4; have HB4 : Below w.heap.size w w4 := (by (repeat' (first | (with_reducible exact Below.refl _ _) | (with_reducible refine bstep (by with_reducible assumption) ?_) | (with_reducible refine Below.alloc ?_ ?_ _) | (with_reducible refine Below.drew ?_) | (with_reducible refine below_drewN ?_ _) | (with_reducible refine Below.setCell ?_ ?_ _) | go_size))); clear P3 X3))
      | (at_builtin; refine wpList_append_lies _ rfl _ _ 39 rfl _ 23 i0 (V3 0 0 0) 3 24 Try.underlying39 ji jz0 jz1 jz2 rfl (by decide) _ _ _ rfl own4 ⟨bb, ob, none⟩ nb cb (nw nb Y) rfl (by simp [nw]) (fun j u hu => ?_) (fun u hu => ?_) k1 (by unfold maxLen; omega) (by omega) hb4.size _ rfl (fun h cap2 w5 h1 h2 h3 h4 => ?_))
      | (go_at_call 29; ((with_reducible refine (BC.out _ _ ?_).mono ?_); (focus (exact pts_of_owns h1 (by omega) h4 (fun o ho => nw_cat na nb X Y o ho))); rintro e w6 ⟨rfl, hb6⟩; have HB5 := Below.grown (Below.refl _ _) h2 hb4.size (fun k hk => (by have hk' : some g = some k := hk; have := Option.some.inj hk'; omega)); have P6 := blk_later (by simp) hb6 (blk_below HB5 (by rw [World.size_alloc]; omega) P4); have X6 := blk_later (by simp) hb6 (blk_below HB5 (by rw [World.size_alloc]; omega) X4); have Y6 := blk_later (by simp) hb6 (blk_below HB5 (by rw [World.size_alloc]; omega) Y4); have HW5 : Below w.heap.size w w5 := HB4.trans (HB5.mono (by rw [World.size_alloc]; omega)); have s6 : w3.heap.size < w6.heap.size := blk_lt (by simp) Y6; have s6x : w2.heap.size < w6.heap.size := (by omega); have s6p : w.heap.size < w6.heap.size := (by omega); clear P4 X4 Y4))
      | (go_at_call 31; ((with_reducible refine (J1.out _).mono ?_); rintro e w7 ⟨rfl, hb7⟩; have P7 := blk_later (by simp) hb7 (blk_alloc (by simp) _ P6); have X7 := blk_later (by simp) hb7 (blk_alloc (by simp) _ X6); have Y7 := blk_later (by simp) hb7 (blk_alloc (by simp) _ Y6); have Z7 := blk_later (by simp) hb7 (new_at rfl _ _); have s7 : w6.heap.size < w7.heap.size := blk_lt (by simp) Z7; clear P6 X6 Y6)))
    case refine_1 =>
      rw [nw, List.getElem?_map, Option.map_eq_some_iff] at hu
      obtain ⟨o, ho, rfl⟩ := hu
      rw [List.getElem?_eq_some_iff] at ho
      obtain ⟨hlo, rfl⟩ := ho
      simp only [List.getElem_range] at *
      first | rw [Go.WideShapes.add_plain] | skip
      rw [HB4.cell (p := ⟨bb, ob + j, none⟩) k4]
      exact K5.out j (by simpa using hlo)
    case refine_2 =>
      rw [nw, List.mem_map] at hu
      obtain ⟨o, _, rfl⟩ := hu
      rfl
    have P8 := blk_alloc (by simp) (.cells #[.int .i64 c0, .int .i64 c1, .int .i64 c2, .int .i64 c3, .int .i64 c4, .int .i64 c5] 41) P7
    have X8 := blk_alloc (by simp) (.cells #[.int .i64 c0, .int .i64 c1, .int .i64 c2, .int .i64 c3, .int .i64 c4, .int .i64 c5] 41) X7
    have Y8 := blk_alloc (by simp) (.cells #[.int .i64 c0, .int .i64 c1, .int .i64 c2, .int .i64 c3, .int .i64 c4, .int .i64 c5] 41) Y7
    have Z8 := blk_alloc (by simp) (.cells #[.int .i64 c0, .int .i64 c1, .int .i64 c2, .int .i64 c3, .int .i64 c4, .int .i64 c5] 41) Z7
    have W8 : ∀ o, (w7.alloc (.cells #[.int .i64 c0, .int .i64 c1, .int .i64 c2, .int .i64 c3, .int .i64 c4, .int .i64 c5] 41)).cell? ⟨w7.heap.size, o, none⟩ = (#[.int .i64 c0, .int .i64 c1, .int .i64 c2, .int .i64 c3, .int .i64 c4, .int .i64 c5] : Array Value)[o]? := new_at rfl _ _
    refine wp_region_held_drew (S := (fun w' => (∀ o, w'.cell? ⟨w.heap.size, o, none⟩ = (#[.int .i64 x, .int .i64 y, .int .i64 z] : Array Value)[o]?) ∧ (∀ o, w'.cell? ⟨w2.heap.size, o, none⟩ = (#[.int .i64 a0, .int .i64 a1, .int .i64 a2, .int .i64 a3, .int .i64 a4, .int .i64 a5] : Array Value)[o]?) ∧ (∀ o, w'.cell? ⟨w3.heap.size, o, none⟩ = (#[.int .i64 b0, .int .i64 b1, .int .i64 b2, .int .i64 b3, .int .i64 b4, .int .i64 b5] : Array Value)[o]?) ∧ (∀ o, w'.cell? ⟨w6.heap.size, o, none⟩ = (#[.int .i64 c0, .int .i64 c1, .int .i64 c2, .int .i64 c3, .int .i64 c4, .int .i64 c5] : Array Value)[o]?) ∧ (∀ o, w'.cell? ⟨w7.heap.size, o, none⟩ = (#[.int .i64 c0, .int .i64 c1, .int .i64 c2, .int .i64 c3, .int .i64 c4, .int .i64 c5] : Array Value)[o]?))) (by kernel_rfl) ?_ (fun hHeld => ?_)
    · (try dsimp only); (((first | (go_split_ands; skip) | skip); (repeat' apply And.intro) <;> (first | assumption | (with_reducible exact blk_drew (by assumption)) | (with_reducible exact blk_later (by simp) (by assumption) (by assumption)))))
    refine wpAnyH_take (i := 0) (oi := { dst := some 53, op := Go.Op.move (Go.Operand.tmp 13), type := 4, pos := "law.go:123", after := #[], guard := none }) (v := ?_) rfl (by kernel_rfl) (by kernel_rfl) (by kernel_rfl) (fun _ _ _ h => h) (Or.inl ⟨by rfl, ?_⟩) (by assumption) ?_
    rotate_left
    · intro w hSw; (try dsimp only at hSw); go_simp; (try with_reducible rfl)
    try simp only [Act.put, List.setIfInBounds_toArray, List.set_cons_zero, List.set_cons_succ]
    refine wpAnyH_take (i := 1) (oi := { dst := some 54, op := Go.Op.move (Go.Operand.tmp 53), type := 4, pos := "law.go:123", after := #[{ on := 0, ground := Go.Ground.data }], guard := none }) (v := ?_) rfl (by kernel_rfl) (by kernel_rfl) (by kernel_rfl) (fun _ _ _ h => h) (Or.inl ⟨by rfl, ?_⟩) (by assumption) ?_
    rotate_left
    · intro w hSw; (try dsimp only at hSw); go_simp; (try with_reducible rfl)
    try simp only [Act.put, List.setIfInBounds_toArray, List.set_cons_zero, List.set_cons_succ]
    refine wpAnyH_take (i := 2) (oi := { dst := some 55, op := Go.Op.load 41 (Go.Operand.tmp 12), type := 41, pos := "law.go:123", after := #[{ on := 1, ground := Go.Ground.guard }], guard := some (1, true) }) (v := ?_) rfl (by kernel_rfl) (by kernel_rfl) (by kernel_rfl) (fun _ _ _ h => h) (Or.inl ⟨by rfl, ?_⟩) (by assumption) ?_
    rotate_left
    · intro w hSw; (try dsimp only at hSw); go_simp; (try with_reducible rfl)
    try simp only [Act.put, List.setIfInBounds_toArray, List.set_cons_zero, List.set_cons_succ]
    refine wpAnyH_take (i := 3) (oi := { dst := some 56, op := Go.Op.load 41 (Go.Operand.tmp 14), type := 41, pos := "law.go:123", after := #[{ on := 1, ground := Go.Ground.guard }], guard := some (1, true) }) (v := ?_) rfl (by kernel_rfl) (by kernel_rfl) (by kernel_rfl) (fun _ _ _ h => h) (Or.inl ⟨by rfl, ?_⟩) (by assumption) ?_
    rotate_left
    · intro w hSw; (try dsimp only at hSw); go_simp; (try with_reducible rfl)
    try simp only [Act.put, List.setIfInBounds_toArray, List.set_cons_zero, List.set_cons_succ]
    refine wpAnyH_take (i := 4) (oi := { dst := some 57, op := Go.Op.binOp Go.BinOp.eql 41 (Go.Operand.tmp 55) (Go.Operand.tmp 56) 41, type := 4, pos := "law.go:123", after := #[{ on := 2, ground := Go.Ground.data }, { on := 3, ground := Go.Ground.data }, { on := 1, ground := Go.Ground.guard }], guard := some (1, true) }) (v := ?_) rfl (by kernel_rfl) (by kernel_rfl) (by kernel_rfl) (fun _ _ _ h => h) (Or.inl ⟨by rfl, ?_⟩) (by assumption) ?_
    rotate_left
    · intro w hSw; (try dsimp only at hSw); go_simp; (try with_reducible rfl)
    try simp only [Act.put, List.setIfInBounds_toArray, List.set_cons_zero, List.set_cons_succ]
    refine wpAnyH_take (i := 5) (oi := { dst := some 58, op := Go.Op.pick (Go.Operand.tmp 54) (Go.Operand.tmp 57) (Go.Operand.const (Go.Value.bool false)), type := 4, pos := "law.go:123", after := #[{ on := 1, ground := Go.Ground.data }, { on := 4, ground := Go.Ground.data }], guard := none }) (v := ?_) rfl (by kernel_rfl) (by kernel_rfl) (by kernel_rfl) (fun _ _ _ h => h) (Or.inl ⟨by rfl, ?_⟩) (by assumption) ?_
    rotate_left
    · intro w hSw; (try dsimp only at hSw); go_simp; (try with_reducible rfl)
    try simp only [Act.put, List.setIfInBounds_toArray, List.set_cons_zero, List.set_cons_succ]
    refine wpAnyH_take (i := 6) (oi := { dst := some 59, op := Go.Op.move (Go.Operand.tmp 58), type := 4, pos := "law.go:123", after := #[{ on := 5, ground := Go.Ground.data }, { on := 1, ground := Go.Ground.chain }], guard := none }) (v := ?_) rfl (by kernel_rfl) (by kernel_rfl) (by kernel_rfl) (fun _ _ _ h => h) (Or.inl ⟨by rfl, ?_⟩) (by assumption) ?_
    rotate_left
    · intro w hSw; (try dsimp only at hSw); go_simp; (try with_reducible rfl)
    try simp only [Act.put, List.setIfInBounds_toArray, List.set_cons_zero, List.set_cons_succ]
    refine wpAnyH_take (i := 7) (oi := { dst := some 60, op := Go.Op.load 41 (Go.Operand.tmp 14), type := 41, pos := "law.go:123", after := #[{ on := 6, ground := Go.Ground.guard }], guard := some (6, true) }) (v := ?_) rfl (by kernel_rfl) (by kernel_rfl) (by kernel_rfl) (fun _ _ _ h => h) (Or.inl ⟨by rfl, ?_⟩) (by assumption) ?_
    rotate_left
    · intro w hSw; (try dsimp only at hSw); go_simp; (try with_reducible rfl)
    try simp only [Act.put, List.setIfInBounds_toArray, List.set_cons_zero, List.set_cons_succ]
    refine wpAnyH_take (i := 8) (oi := { dst := some 61, op := Go.Op.load 41 (Go.Operand.tmp 9), type := 41, pos := "law.go:123", after := #[{ on := 6, ground := Go.Ground.guard }], guard := some (6, true) }) (v := ?_) rfl (by kernel_rfl) (by kernel_rfl) (by kernel_rfl) (fun _ _ _ h => h) (Or.inl ⟨by rfl, ?_⟩) (by assumption) ?_
    rotate_left
    · intro w hSw; (try dsimp only at hSw); go_simp; (try with_reducible rfl)
    try simp only [Act.put, List.setIfInBounds_toArray, List.set_cons_zero, List.set_cons_succ]
    refine wpAnyH_take (i := 9) (oi := { dst := some 62, op := Go.Op.load 41 (Go.Operand.tmp 7), type := 41, pos := "law.go:123", after := #[{ on := 6, ground := Go.Ground.guard }], guard := some (6, true) }) (v := ?_) rfl (by kernel_rfl) (by kernel_rfl) (by kernel_rfl) (fun _ _ _ h => h) (Or.inl ⟨by rfl, ?_⟩) (by assumption) ?_
    rotate_left
    · intro w hSw; (try dsimp only at hSw); go_simp; (try with_reducible rfl)
    try simp only [Act.put, List.setIfInBounds_toArray, List.set_cons_zero, List.set_cons_succ]
    refine wpAnyH_ready (rs := [10]) (by kernel_rfl) (by simp) ?_
    refine AllReadyH.cons (o := { dst := some 63, op := Go.Op.call { callee := Go.Callee.value (Go.Operand.func 31), args := #[Go.Operand.tmp 61, Go.Operand.tmp 62], argTypes := #[41, 41] }, type := 41, pos := "law.go:123", after := #[{ on := 8, ground := Go.Ground.data }, { on := 9, ground := Go.Ground.data }, { on := 6, ground := Go.Ground.chain }, { on := 6, ground := Go.Ground.guard }], guard := some (6, true) }) rfl (fun K hK => ?_) AllReadyH.nil
    go_simp
    (go_at_call 31; ((with_reducible refine (J2.out _).mono ?_); rintro e v1 ⟨rfl, gb1⟩))
    refine hK.out _ _ ?_ (fun hHeld10 => ?_)
    · (try dsimp only); (((first | (go_split_ands; skip) | skip); (repeat' apply And.intro) <;> (first | assumption | (with_reducible exact blk_drew (by assumption)) | (with_reducible exact blk_later (by simp) (by assumption) (by assumption)))))
    clear hK K hHeld
    try simp only [Act.put, List.setIfInBounds_toArray, List.set_cons_zero, List.set_cons_succ]
    refine wpAnyH_take (i := 11) (oi := { dst := some 64, op := Go.Op.binOp Go.BinOp.eql 41 (Go.Operand.tmp 60) (Go.Operand.tmp 63) 41, type := 4, pos := "law.go:123", after := #[{ on := 7, ground := Go.Ground.data }, { on := 10, ground := Go.Ground.data }, { on := 6, ground := Go.Ground.guard }], guard := some (6, true) }) (v := ?_) rfl (by kernel_rfl) (by kernel_rfl) (by kernel_rfl) (fun _ _ _ h => h) (Or.inl ⟨by rfl, ?_⟩) (by assumption) ?_
    rotate_left
    · intro w hSw; (try dsimp only at hSw); go_simp; (try with_reducible rfl)
    try simp only [Act.put, List.setIfInBounds_toArray, List.set_cons_zero, List.set_cons_succ]
    refine wpAnyH_take (i := 12) (oi := { dst := some 65, op := Go.Op.pick (Go.Operand.tmp 59) (Go.Operand.tmp 64) (Go.Operand.const (Go.Value.bool false)), type := 4, pos := "law.go:123", after := #[{ on := 6, ground := Go.Ground.data }, { on := 11, ground := Go.Ground.data }], guard := none }) (v := ?_) rfl (by kernel_rfl) (by kernel_rfl) (by kernel_rfl) (fun _ _ _ h => h) (Or.inl ⟨by rfl, ?_⟩) (by assumption) ?_
    rotate_left
    · intro w hSw; (try dsimp only at hSw); go_simp; (try with_reducible rfl)
    try simp only [Act.put, List.setIfInBounds_toArray, List.set_cons_zero, List.set_cons_succ]
    refine wpAnyH_take (i := 13) (oi := { dst := some 66, op := Go.Op.move (Go.Operand.tmp 65), type := 4, pos := "law.go:123", after := #[{ on := 12, ground := Go.Ground.data }, { on := 10, ground := Go.Ground.chain }], guard := none }) (v := ?_) rfl (by kernel_rfl) (by kernel_rfl) (by kernel_rfl) (fun _ _ _ h => h) (Or.inl ⟨by rfl, ?_⟩) (by assumption) ?_
    rotate_left
    · intro w hSw; (try dsimp only at hSw); go_simp; (try with_reducible rfl)
    try simp only [Act.put, List.setIfInBounds_toArray, List.set_cons_zero, List.set_cons_succ]
    refine wpAnyH_take (i := 14) (oi := { dst := some 67, op := Go.Op.load 41 (Go.Operand.tmp 7), type := 41, pos := "law.go:123", after := #[{ on := 13, ground := Go.Ground.guard }], guard := some (13, true) }) (v := ?_) rfl (by kernel_rfl) (by kernel_rfl) (by kernel_rfl) (fun _ _ _ h => h) (Or.inl ⟨by rfl, ?_⟩) (by assumption) ?_
    rotate_left
    · intro w hSw; (try dsimp only at hSw); go_simp; (try with_reducible rfl)
    try simp only [Act.put, List.setIfInBounds_toArray, List.set_cons_zero, List.set_cons_succ]
    refine wpAnyH_take (i := 15) (oi := { dst := some 68, op := Go.Op.load 23 (Go.Operand.tmp 5), type := 23, pos := "law.go:123", after := #[{ on := 13, ground := Go.Ground.guard }], guard := some (13, true) }) (v := ?_) rfl (by kernel_rfl) (by kernel_rfl) (by kernel_rfl) (fun _ _ _ h => h) (Or.inl ⟨by rfl, ?_⟩) (by assumption) ?_
    rotate_left
    · intro w hSw; (try dsimp only at hSw); go_simp; (try with_reducible rfl)
    try simp only [Act.put, List.setIfInBounds_toArray, List.set_cons_zero, List.set_cons_succ]
    refine wpAnyH_ready (rs := [16]) (by kernel_rfl) (by simp) ?_
    refine AllReadyH.cons (o := { dst := some 69, op := Go.Op.call { callee := Go.Callee.value (Go.Operand.func 33), args := #[Go.Operand.tmp 67, Go.Operand.tmp 68], argTypes := #[41, 23] }, type := 4, pos := "law.go:123", after := #[{ on := 14, ground := Go.Ground.data }, { on := 15, ground := Go.Ground.data }, { on := 13, ground := Go.Ground.chain }, { on := 13, ground := Go.Ground.guard }], guard := some (13, true) }) rfl (fun K hK => ?_) AllReadyH.nil
    go_simp
    (go_at_call 33; ((with_reducible refine (H1.out _).mono ?_); rintro e v2 ⟨rfl, gb2⟩))
    refine hK.out _ _ ?_ (fun hHeld16 => ?_)
    · (try dsimp only); (((first | (go_split_ands; skip) | skip); (repeat' apply And.intro) <;> (first | assumption | (with_reducible exact blk_drew (by assumption)) | (with_reducible exact blk_later (by simp) (by assumption) (by assumption)))))
    clear hK K hHeld10
    try simp only [Act.put, List.setIfInBounds_toArray, List.set_cons_zero, List.set_cons_succ]
    refine wpAnyH_take (i := 17) (oi := { dst := some 70, op := Go.Op.unOp Go.UnOp.not 4 (Go.Operand.tmp 69), type := 4, pos := "law.go:123", after := #[{ on := 16, ground := Go.Ground.data }, { on := 13, ground := Go.Ground.guard }], guard := some (13, true) }) (v := ?_) rfl (by kernel_rfl) (by kernel_rfl) (by kernel_rfl) (fun _ _ _ h => h) (Or.inl ⟨by rfl, ?_⟩) (by assumption) ?_
    rotate_left
    · intro w hSw; (try dsimp only at hSw); go_simp; (try with_reducible rfl)
    try simp only [Act.put, List.setIfInBounds_toArray, List.set_cons_zero, List.set_cons_succ]
    refine wpAnyH_take (i := 18) (oi := { dst := some 71, op := Go.Op.move (Go.Operand.tmp 70), type := 4, pos := "law.go:123", after := #[{ on := 17, ground := Go.Ground.data }, { on := 16, ground := Go.Ground.chain }, { on := 13, ground := Go.Ground.guard }], guard := some (13, true) }) (v := ?_) rfl (by kernel_rfl) (by kernel_rfl) (by kernel_rfl) (fun _ _ _ h => h) (Or.inl ⟨by rfl, ?_⟩) (by assumption) ?_
    rotate_left
    · intro w hSw; (try dsimp only at hSw); go_simp; (try with_reducible rfl)
    try simp only [Act.put, List.setIfInBounds_toArray, List.set_cons_zero, List.set_cons_succ]
    refine wpAnyH_take (i := 19) (oi := { dst := some 72, op := Go.Op.load 41 (Go.Operand.tmp 9), type := 41, pos := "law.go:123", after := #[{ on := 18, ground := Go.Ground.guard }], guard := some (18, true) }) (v := ?_) rfl (by kernel_rfl) (by kernel_rfl) (by kernel_rfl) (fun _ _ _ h => h) (Or.inl ⟨by rfl, ?_⟩) (by assumption) ?_
    rotate_left
    · intro w hSw; (try dsimp only at hSw); go_simp; (try with_reducible rfl)
    try simp only [Act.put, List.setIfInBounds_toArray, List.set_cons_zero, List.set_cons_succ]
    refine wpAnyH_take (i := 20) (oi := { dst := some 73, op := Go.Op.load 23 (Go.Operand.tmp 5), type := 23, pos := "law.go:123", after := #[{ on := 18, ground := Go.Ground.guard }], guard := some (18, true) }) (v := ?_) rfl (by kernel_rfl) (by kernel_rfl) (by kernel_rfl) (fun _ _ _ h => h) (Or.inl ⟨by rfl, ?_⟩) (by assumption) ?_
    rotate_left
    · intro w hSw; (try dsimp only at hSw); go_simp; (try with_reducible rfl)
    try simp only [Act.put, List.setIfInBounds_toArray, List.set_cons_zero, List.set_cons_succ]
    refine wpAnyH_ready (rs := [21]) (by kernel_rfl) (by simp) ?_
    refine AllReadyH.cons (o := { dst := some 74, op := Go.Op.call { callee := Go.Callee.value (Go.Operand.func 33), args := #[Go.Operand.tmp 72, Go.Operand.tmp 73], argTypes := #[41, 23] }, type := 4, pos := "law.go:123", after := #[{ on := 19, ground := Go.Ground.data }, { on := 20, ground := Go.Ground.data }, { on := 18, ground := Go.Ground.chain }, { on := 18, ground := Go.Ground.guard }], guard := some (18, true) }) rfl (fun K hK => ?_) AllReadyH.nil
    go_simp
    (go_at_call 33; ((with_reducible refine (H2.out _).mono ?_); rintro e v3 ⟨rfl, gb3⟩))
    refine hK.out _ _ ?_ (fun hHeld21 => ?_)
    · (try dsimp only); (((first | (go_split_ands; skip) | skip); (repeat' apply And.intro) <;> (first | assumption | (with_reducible exact blk_drew (by assumption)) | (with_reducible exact blk_later (by simp) (by assumption) (by assumption)))))
    clear hK K hHeld16
    try simp only [Act.put, List.setIfInBounds_toArray, List.set_cons_zero, List.set_cons_succ]
    refine wpAnyH_take (i := 22) (oi := { dst := some 75, op := Go.Op.unOp Go.UnOp.not 4 (Go.Operand.tmp 74), type := 4, pos := "law.go:123", after := #[{ on := 21, ground := Go.Ground.data }, { on := 18, ground := Go.Ground.guard }], guard := some (18, true) }) (v := ?_) rfl (by kernel_rfl) (by kernel_rfl) (by kernel_rfl) (fun _ _ _ h => h) (Or.inl ⟨by rfl, ?_⟩) (by assumption) ?_
    rotate_left
    · intro w hSw; (try dsimp only at hSw); go_simp; (try with_reducible rfl)
    try simp only [Act.put, List.setIfInBounds_toArray, List.set_cons_zero, List.set_cons_succ]
    refine wpAnyH_take (i := 23) (oi := { dst := some 76, op := Go.Op.pick (Go.Operand.tmp 71) (Go.Operand.tmp 75) (Go.Operand.const (Go.Value.bool false)), type := 4, pos := "law.go:123", after := #[{ on := 18, ground := Go.Ground.data }, { on := 22, ground := Go.Ground.data }, { on := 13, ground := Go.Ground.guard }], guard := some (13, true) }) (v := ?_) rfl (by kernel_rfl) (by kernel_rfl) (by kernel_rfl) (fun _ _ _ h => h) (Or.inl ⟨by rfl, ?_⟩) (by assumption) ?_
    rotate_left
    · intro w hSw; (try dsimp only at hSw); go_simp; (try with_reducible rfl)
    try simp only [Act.put, List.setIfInBounds_toArray, List.set_cons_zero, List.set_cons_succ]
    refine wpAnyH_take (i := 24) (oi := { dst := some 77, op := Go.Op.move (Go.Operand.tmp 76), type := 4, pos := "law.go:123", after := #[{ on := 23, ground := Go.Ground.data }, { on := 21, ground := Go.Ground.chain }, { on := 13, ground := Go.Ground.guard }], guard := some (13, true) }) (v := ?_) rfl (by kernel_rfl) (by kernel_rfl) (by kernel_rfl) (fun _ _ _ h => h) (Or.inl ⟨by rfl, ?_⟩) (by assumption) ?_
    rotate_left
    · intro w hSw; (try dsimp only at hSw); go_simp; (try with_reducible rfl)
    try simp only [Act.put, List.setIfInBounds_toArray, List.set_cons_zero, List.set_cons_succ]
    refine wpAnyH_take (i := 25) (oi := { dst := some 78, op := Go.Op.load 41 (Go.Operand.tmp 14), type := 41, pos := "law.go:123", after := #[{ on := 24, ground := Go.Ground.guard }], guard := some (24, false) }) (v := ?_) rfl (by kernel_rfl) (by kernel_rfl) (by kernel_rfl) (fun _ _ _ h => h) (Or.inl ⟨by rfl, ?_⟩) (by assumption) ?_
    rotate_left
    · intro w hSw; (try dsimp only at hSw); go_simp; (try with_reducible rfl)
    try simp only [Act.put, List.setIfInBounds_toArray, List.set_cons_zero, List.set_cons_succ]
    refine wpAnyH_take (i := 26) (oi := { dst := some 79, op := Go.Op.load 23 (Go.Operand.tmp 5), type := 23, pos := "law.go:123", after := #[{ on := 24, ground := Go.Ground.guard }], guard := some (24, false) }) (v := ?_) rfl (by kernel_rfl) (by kernel_rfl) (by kernel_rfl) (fun _ _ _ h => h) (Or.inl ⟨by rfl, ?_⟩) (by assumption) ?_
    rotate_left
    · intro w hSw; (try dsimp only at hSw); go_simp; (try with_reducible rfl)
    try simp only [Act.put, List.setIfInBounds_toArray, List.set_cons_zero, List.set_cons_succ]
    refine wpAnyH_ready (rs := [27]) (by kernel_rfl) (by simp) ?_
    refine AllReadyH.cons (o := { dst := some 80, op := Go.Op.call { callee := Go.Callee.value (Go.Operand.func 33), args := #[Go.Operand.tmp 78, Go.Operand.tmp 79], argTypes := #[41, 23] }, type := 4, pos := "law.go:123", after := #[{ on := 25, ground := Go.Ground.data }, { on := 26, ground := Go.Ground.data }, { on := 24, ground := Go.Ground.chain }, { on := 24, ground := Go.Ground.guard }], guard := some (24, false) }) rfl (fun K hK => ?_) AllReadyH.nil
    go_simp
    (go_at_call 33; ((with_reducible refine (H3.out _).mono ?_); rintro e v4 ⟨rfl, gb4⟩))
    refine hK.out _ _ ?_ (fun hHeld27 => ?_)
    · (try dsimp only); (((first | (go_split_ands; skip) | skip); (repeat' apply And.intro) <;> (first | assumption | (with_reducible exact blk_drew (by assumption)) | (with_reducible exact blk_later (by simp) (by assumption) (by assumption)))))
    clear hK K hHeld21
    try simp only [Act.put, List.setIfInBounds_toArray, List.set_cons_zero, List.set_cons_succ]
    refine wpAnyH_take (i := 28) (oi := { dst := some 81, op := Go.Op.pick (Go.Operand.tmp 77) (Go.Operand.const (Go.Value.bool true)) (Go.Operand.tmp 80), type := 4, pos := "law.go:123", after := #[{ on := 24, ground := Go.Ground.data }, { on := 27, ground := Go.Ground.data }, { on := 13, ground := Go.Ground.guard }], guard := some (13, true) }) (v := ?_) rfl (by kernel_rfl) (by kernel_rfl) (by kernel_rfl) (fun _ _ _ h => h) (Or.inl ⟨by rfl, ?_⟩) (by assumption) ?_
    rotate_left
    · intro w hSw; (try dsimp only at hSw); go_simp; (try with_reducible rfl)
    try simp only [Act.put, List.setIfInBounds_toArray, List.set_cons_zero, List.set_cons_succ]
    refine wpAnyH_take (i := 29) (oi := { dst := some 82, op := Go.Op.pick (Go.Operand.tmp 66) (Go.Operand.tmp 81) (Go.Operand.const (Go.Value.bool false)), type := 4, pos := "law.go:123", after := #[{ on := 13, ground := Go.Ground.data }, { on := 28, ground := Go.Ground.data }], guard := none }) (v := ?_) rfl (by kernel_rfl) (by kernel_rfl) (by kernel_rfl) (fun _ _ _ h => h) (Or.inl ⟨by rfl, ?_⟩) (by assumption) ?_
    rotate_left
    · intro w hSw; (try dsimp only at hSw); go_simp; (try with_reducible rfl)
    try simp only [Act.put, List.setIfInBounds_toArray, List.set_cons_zero, List.set_cons_succ]
    refine wpAnyH_take (i := 30) (oi := { dst := some 6, op := Go.Op.assign (Go.Operand.tmp 82), type := 4, pos := "law.go:123", after := #[{ on := 29, ground := Go.Ground.data }, { on := 27, ground := Go.Ground.chain }, { on := 0, ground := Go.Ground.phase }, { on := 1, ground := Go.Ground.phase }, { on := 2, ground := Go.Ground.phase }, { on := 3, ground := Go.Ground.phase }, { on := 4, ground := Go.Ground.phase }, { on := 5, ground := Go.Ground.phase }, { on := 6, ground := Go.Ground.phase }, { on := 7, ground := Go.Ground.phase }, { on := 8, ground := Go.Ground.phase }, { on := 9, ground := Go.Ground.phase }, { on := 10, ground := Go.Ground.phase }, { on := 11, ground := Go.Ground.phase }, { on := 12, ground := Go.Ground.phase }, { on := 13, ground := Go.Ground.phase }, { on := 14, ground := Go.Ground.phase }, { on := 15, ground := Go.Ground.phase }, { on := 16, ground := Go.Ground.phase }, { on := 17, ground := Go.Ground.phase }, { on := 18, ground := Go.Ground.phase }, { on := 19, ground := Go.Ground.phase }, { on := 20, ground := Go.Ground.phase }, { on := 21, ground := Go.Ground.phase }, { on := 22, ground := Go.Ground.phase }, { on := 23, ground := Go.Ground.phase }, { on := 24, ground := Go.Ground.phase }, { on := 25, ground := Go.Ground.phase }, { on := 26, ground := Go.Ground.phase }, { on := 27, ground := Go.Ground.phase }, { on := 28, ground := Go.Ground.phase }, { on := 29, ground := Go.Ground.phase }], guard := none }) (v := ?_) rfl (by kernel_rfl) (by kernel_rfl) (by kernel_rfl) (fun _ _ _ h => h) (Or.inl ⟨by rfl, ?_⟩) (by assumption) ?_
    rotate_left
    · intro w hSw; (try dsimp only at hSw); go_simp; (try with_reducible rfl)
    try simp only [Act.put, List.setIfInBounds_toArray, List.set_cons_zero, List.set_cons_succ]
    refine wpAnyH_done (by kernel_rfl) ?_ _
    go_wp2_with fail
    go_returns
    exact ⟨by simp, by (repeat' (first | (with_reducible assumption) | (with_reducible exact Below.refl _ _) | (with_reducible refine bstep (by with_reducible assumption) ?_) | (with_reducible refine Below.alloc ?_ ?_ _) | (with_reducible refine Below.drew ?_) | (with_reducible refine below_drewN ?_ _) | (with_reducible refine Below.setCell ?_ ?_ _) | go_size))⟩
  · obtain rfl : u3 = true := HU (.inl rfl)
    clear HH HU
    go_enter Try.func11, Try.ntmps11
    go_wp2_with (first
      | (go_at_call 20; ((with_reducible refine (alive02_any _).mono ?_); rintro e w1 ⟨rfl, hb1⟩; have P1 : ∀ o, w1.cell? ⟨w.heap.size, o, none⟩ = (#[.int .i64 x, .int .i64 y, .int .i64 z] : Array Value)[o]? := blk_later (by simp) hb1 (by (repeat (first | (with_reducible assumption) | (focus ((with_reducible refine new_at ?_ _ _); (repeat (first | (with_reducible rfl) | (with_reducible refine sz1 ?_))); done)) | (with_reducible refine blk_alloc (by simp) _ ?_) | (with_reducible refine blk_drew ?_)))); have s1 : w.heap.size < w1.heap.size := blk_lt (by simp) P1))
      | (go_at_call 29; ((with_reducible refine (BA.out _ ?_).mono ?_); (focus ((repeat' (first | (with_reducible exact Below.refl _ _) | (with_reducible refine bstep (by with_reducible assumption) ?_) | (with_reducible refine Below.alloc ?_ ?_ _) | (with_reducible refine Below.drew ?_) | (with_reducible refine below_drewN ?_ _) | (with_reducible refine Below.setCell ?_ ?_ _) | go_size)))); rintro e w2 ⟨rfl, hb2⟩; have P2 := blk_later (by simp) hb2 P1; have s2 : w.heap.size < w2.heap.size := blk_lt (by simp) P2; clear P1))
      | (go_at_call 29; ((with_reducible refine (BB.out _ ?_).mono ?_); (focus ((repeat' (first | (with_reducible exact Below.refl _ _) | (with_reducible refine bstep (by with_reducible assumption) ?_) | (with_reducible refine Below.alloc ?_ ?_ _) | (with_reducible refine Below.drew ?_) | (with_reducible refine below_drewN ?_ _) | (with_reducible refine Below.setCell ?_ ?_ _) | go_size)))); rintro e w3 ⟨rfl, hb3⟩; have P3 := blk_later (by simp) hb3 (blk_alloc (by simp) _ P2); have X3 := blk_later (by simp) hb3 (new_at rfl _ _); have s3 : w.heap.size < w3.heap.size := blk_lt (by simp) P3; have s3x : w2.heap.size < w3.heap.size := blk_lt (by simp) X3; clear P2))
      | (go_at_call 28; ((with_reducible refine (CA.out _ ?_).mono ?_); (focus ((repeat' (first | (with_reducible exact Below.refl _ _) | (with_reducible refine bstep (by with_reducible assumption) ?_) | (with_reducible refine Below.alloc ?_ ?_ _) | (with_reducible refine Below.drew ?_) | (with_reducible refine below_drewN ?_ _) | (with_reducible refine Below.setCell ?_ ?_ _) | go_size)))); rintro e w4 ⟨g, cap, rfl, hg, hPt, hb4, own4, hg4⟩; have P4 := blk_later (by simp) hb4 (blk_alloc (by simp) _ P3); have X4 := blk_later (by simp) hb4 (blk_alloc (by simp) _ X3); have Y4 := blk_later (by simp) hb4 (new_at rfl _ _); have s4 : w3.heap.size < w4.heap.size := blk_lt (by simp) Y4; have HB4 : Below w.heap.size w w4 := (by (repeat' (first | (with_reducible exact Below.refl _ _) | (with_reducible refine bstep (by with_reducible assumption) ?_) | (with_reducible refine Below.alloc ?_ ?_ _) | (with_reducible refine Below.drew ?_) | (with_reducible refine below_drewN ?_ _) | (with_reducible refine Below.setCell ?_ ?_ _) | go_size))); clear P3 X3))
      | (at_builtin; refine wpList_append_lies _ rfl _ _ 39 rfl _ 23 i0 (V3 0 0 0) 3 24 Try.underlying39 ji jz0 jz1 jz2 rfl (by decide) _ _ _ rfl own4 ⟨bb, ob, none⟩ nb cb (nw nb Y) rfl (by simp [nw]) (fun j u hu => ?_) (fun u hu => ?_) k1 (by unfold maxLen; omega) (by omega) hb4.size _ rfl (fun h cap2 w5 h1 h2 h3 h4 => ?_))
      | (go_at_call 29; ((with_reducible refine (BC.out _ _ ?_).mono ?_); (focus (exact pts_of_owns h1 (by omega) h4 (fun o ho => nw_cat na nb X Y o ho))); rintro e w6 ⟨rfl, hb6⟩; have HB5 := Below.grown (Below.refl _ _) h2 hb4.size (fun k hk => (by have hk' : some g = some k := hk; have := Option.some.inj hk'; omega)); have P6 := blk_later (by simp) hb6 (blk_below HB5 (by rw [World.size_alloc]; omega) P4); have X6 := blk_later (by simp) hb6 (blk_below HB5 (by rw [World.size_alloc]; omega) X4); have Y6 := blk_later (by simp) hb6 (blk_below HB5 (by rw [World.size_alloc]; omega) Y4); have HW5 : Below w.heap.size w w5 := HB4.trans (HB5.mono (by rw [World.size_alloc]; omega)); have s6 : w3.heap.size < w6.heap.size := blk_lt (by simp) Y6; have s6x : w2.heap.size < w6.heap.size := (by omega); have s6p : w.heap.size < w6.heap.size := (by omega); clear P4 X4 Y4))
      | (go_at_call 31; ((with_reducible refine (J1.out _).mono ?_); rintro e w7 ⟨rfl, hb7⟩; have P7 := blk_later (by simp) hb7 (blk_alloc (by simp) _ P6); have X7 := blk_later (by simp) hb7 (blk_alloc (by simp) _ X6); have Y7 := blk_later (by simp) hb7 (blk_alloc (by simp) _ Y6); have Z7 := blk_later (by simp) hb7 (new_at rfl _ _); have s7 : w6.heap.size < w7.heap.size := blk_lt (by simp) Z7; clear P6 X6 Y6)))
    case refine_1 =>
      rw [nw, List.getElem?_map, Option.map_eq_some_iff] at hu
      obtain ⟨o, ho, rfl⟩ := hu
      rw [List.getElem?_eq_some_iff] at ho
      obtain ⟨hlo, rfl⟩ := ho
      simp only [List.getElem_range] at *
      first | rw [Go.WideShapes.add_plain] | skip
      rw [HB4.cell (p := ⟨bb, ob + j, none⟩) k4]
      exact K5.out j (by simpa using hlo)
    case refine_2 =>
      rw [nw, List.mem_map] at hu
      obtain ⟨o, _, rfl⟩ := hu
      rfl
    have P8 := blk_alloc (by simp) (.cells #[.int .i64 c0, .int .i64 c1, .int .i64 c2, .int .i64 c3, .int .i64 c4, .int .i64 c5] 41) P7
    have X8 := blk_alloc (by simp) (.cells #[.int .i64 c0, .int .i64 c1, .int .i64 c2, .int .i64 c3, .int .i64 c4, .int .i64 c5] 41) X7
    have Y8 := blk_alloc (by simp) (.cells #[.int .i64 c0, .int .i64 c1, .int .i64 c2, .int .i64 c3, .int .i64 c4, .int .i64 c5] 41) Y7
    have Z8 := blk_alloc (by simp) (.cells #[.int .i64 c0, .int .i64 c1, .int .i64 c2, .int .i64 c3, .int .i64 c4, .int .i64 c5] 41) Z7
    have W8 : ∀ o, (w7.alloc (.cells #[.int .i64 c0, .int .i64 c1, .int .i64 c2, .int .i64 c3, .int .i64 c4, .int .i64 c5] 41)).cell? ⟨w7.heap.size, o, none⟩ = (#[.int .i64 c0, .int .i64 c1, .int .i64 c2, .int .i64 c3, .int .i64 c4, .int .i64 c5] : Array Value)[o]? := new_at rfl _ _
    refine wp_region_held_drew (S := (fun w' => (∀ o, w'.cell? ⟨w.heap.size, o, none⟩ = (#[.int .i64 x, .int .i64 y, .int .i64 z] : Array Value)[o]?) ∧ (∀ o, w'.cell? ⟨w2.heap.size, o, none⟩ = (#[.int .i64 a0, .int .i64 a1, .int .i64 a2, .int .i64 a3, .int .i64 a4, .int .i64 a5] : Array Value)[o]?) ∧ (∀ o, w'.cell? ⟨w3.heap.size, o, none⟩ = (#[.int .i64 b0, .int .i64 b1, .int .i64 b2, .int .i64 b3, .int .i64 b4, .int .i64 b5] : Array Value)[o]?) ∧ (∀ o, w'.cell? ⟨w6.heap.size, o, none⟩ = (#[.int .i64 c0, .int .i64 c1, .int .i64 c2, .int .i64 c3, .int .i64 c4, .int .i64 c5] : Array Value)[o]?) ∧ (∀ o, w'.cell? ⟨w7.heap.size, o, none⟩ = (#[.int .i64 c0, .int .i64 c1, .int .i64 c2, .int .i64 c3, .int .i64 c4, .int .i64 c5] : Array Value)[o]?))) (by kernel_rfl) ?_ (fun hHeld => ?_)
    · (try dsimp only); (((first | (go_split_ands; skip) | skip); (repeat' apply And.intro) <;> (first | assumption | (with_reducible exact blk_drew (by assumption)) | (with_reducible exact blk_later (by simp) (by assumption) (by assumption)))))
    refine wpAnyH_take (i := 0) (oi := { dst := some 53, op := Go.Op.move (Go.Operand.tmp 13), type := 4, pos := "law.go:123", after := #[], guard := none }) (v := ?_) rfl (by kernel_rfl) (by kernel_rfl) (by kernel_rfl) (fun _ _ _ h => h) (Or.inl ⟨by rfl, ?_⟩) (by assumption) ?_
    rotate_left
    · intro w hSw; (try dsimp only at hSw); go_simp; (try with_reducible rfl)
    try simp only [Act.put, List.setIfInBounds_toArray, List.set_cons_zero, List.set_cons_succ]
    refine wpAnyH_take (i := 1) (oi := { dst := some 54, op := Go.Op.move (Go.Operand.tmp 53), type := 4, pos := "law.go:123", after := #[{ on := 0, ground := Go.Ground.data }], guard := none }) (v := ?_) rfl (by kernel_rfl) (by kernel_rfl) (by kernel_rfl) (fun _ _ _ h => h) (Or.inl ⟨by rfl, ?_⟩) (by assumption) ?_
    rotate_left
    · intro w hSw; (try dsimp only at hSw); go_simp; (try with_reducible rfl)
    try simp only [Act.put, List.setIfInBounds_toArray, List.set_cons_zero, List.set_cons_succ]
    refine wpAnyH_take (i := 2) (oi := { dst := some 55, op := Go.Op.load 41 (Go.Operand.tmp 12), type := 41, pos := "law.go:123", after := #[{ on := 1, ground := Go.Ground.guard }], guard := some (1, true) }) (v := ?_) rfl (by kernel_rfl) (by kernel_rfl) (by kernel_rfl) (fun _ _ _ h => h) (Or.inl ⟨by rfl, ?_⟩) (by assumption) ?_
    rotate_left
    · intro w hSw; (try dsimp only at hSw); go_simp; (try with_reducible rfl)
    try simp only [Act.put, List.setIfInBounds_toArray, List.set_cons_zero, List.set_cons_succ]
    refine wpAnyH_take (i := 3) (oi := { dst := some 56, op := Go.Op.load 41 (Go.Operand.tmp 14), type := 41, pos := "law.go:123", after := #[{ on := 1, ground := Go.Ground.guard }], guard := some (1, true) }) (v := ?_) rfl (by kernel_rfl) (by kernel_rfl) (by kernel_rfl) (fun _ _ _ h => h) (Or.inl ⟨by rfl, ?_⟩) (by assumption) ?_
    rotate_left
    · intro w hSw; (try dsimp only at hSw); go_simp; (try with_reducible rfl)
    try simp only [Act.put, List.setIfInBounds_toArray, List.set_cons_zero, List.set_cons_succ]
    refine wpAnyH_take (i := 4) (oi := { dst := some 57, op := Go.Op.binOp Go.BinOp.eql 41 (Go.Operand.tmp 55) (Go.Operand.tmp 56) 41, type := 4, pos := "law.go:123", after := #[{ on := 2, ground := Go.Ground.data }, { on := 3, ground := Go.Ground.data }, { on := 1, ground := Go.Ground.guard }], guard := some (1, true) }) (v := ?_) rfl (by kernel_rfl) (by kernel_rfl) (by kernel_rfl) (fun _ _ _ h => h) (Or.inl ⟨by rfl, ?_⟩) (by assumption) ?_
    rotate_left
    · intro w hSw; (try dsimp only at hSw); go_simp; (try with_reducible rfl)
    try simp only [Act.put, List.setIfInBounds_toArray, List.set_cons_zero, List.set_cons_succ]
    refine wpAnyH_take (i := 5) (oi := { dst := some 58, op := Go.Op.pick (Go.Operand.tmp 54) (Go.Operand.tmp 57) (Go.Operand.const (Go.Value.bool false)), type := 4, pos := "law.go:123", after := #[{ on := 1, ground := Go.Ground.data }, { on := 4, ground := Go.Ground.data }], guard := none }) (v := ?_) rfl (by kernel_rfl) (by kernel_rfl) (by kernel_rfl) (fun _ _ _ h => h) (Or.inl ⟨by rfl, ?_⟩) (by assumption) ?_
    rotate_left
    · intro w hSw; (try dsimp only at hSw); go_simp; (try with_reducible rfl)
    try simp only [Act.put, List.setIfInBounds_toArray, List.set_cons_zero, List.set_cons_succ]
    refine wpAnyH_take (i := 6) (oi := { dst := some 59, op := Go.Op.move (Go.Operand.tmp 58), type := 4, pos := "law.go:123", after := #[{ on := 5, ground := Go.Ground.data }, { on := 1, ground := Go.Ground.chain }], guard := none }) (v := ?_) rfl (by kernel_rfl) (by kernel_rfl) (by kernel_rfl) (fun _ _ _ h => h) (Or.inl ⟨by rfl, ?_⟩) (by assumption) ?_
    rotate_left
    · intro w hSw; (try dsimp only at hSw); go_simp; (try with_reducible rfl)
    try simp only [Act.put, List.setIfInBounds_toArray, List.set_cons_zero, List.set_cons_succ]
    refine wpAnyH_take (i := 7) (oi := { dst := some 60, op := Go.Op.load 41 (Go.Operand.tmp 14), type := 41, pos := "law.go:123", after := #[{ on := 6, ground := Go.Ground.guard }], guard := some (6, true) }) (v := ?_) rfl (by kernel_rfl) (by kernel_rfl) (by kernel_rfl) (fun _ _ _ h => h) (Or.inl ⟨by rfl, ?_⟩) (by assumption) ?_
    rotate_left
    · intro w hSw; (try dsimp only at hSw); go_simp; (try with_reducible rfl)
    try simp only [Act.put, List.setIfInBounds_toArray, List.set_cons_zero, List.set_cons_succ]
    refine wpAnyH_take (i := 8) (oi := { dst := some 61, op := Go.Op.load 41 (Go.Operand.tmp 9), type := 41, pos := "law.go:123", after := #[{ on := 6, ground := Go.Ground.guard }], guard := some (6, true) }) (v := ?_) rfl (by kernel_rfl) (by kernel_rfl) (by kernel_rfl) (fun _ _ _ h => h) (Or.inl ⟨by rfl, ?_⟩) (by assumption) ?_
    rotate_left
    · intro w hSw; (try dsimp only at hSw); go_simp; (try with_reducible rfl)
    try simp only [Act.put, List.setIfInBounds_toArray, List.set_cons_zero, List.set_cons_succ]
    refine wpAnyH_take (i := 9) (oi := { dst := some 62, op := Go.Op.load 41 (Go.Operand.tmp 7), type := 41, pos := "law.go:123", after := #[{ on := 6, ground := Go.Ground.guard }], guard := some (6, true) }) (v := ?_) rfl (by kernel_rfl) (by kernel_rfl) (by kernel_rfl) (fun _ _ _ h => h) (Or.inl ⟨by rfl, ?_⟩) (by assumption) ?_
    rotate_left
    · intro w hSw; (try dsimp only at hSw); go_simp; (try with_reducible rfl)
    try simp only [Act.put, List.setIfInBounds_toArray, List.set_cons_zero, List.set_cons_succ]
    refine wpAnyH_ready (rs := [10]) (by kernel_rfl) (by simp) ?_
    refine AllReadyH.cons (o := { dst := some 63, op := Go.Op.call { callee := Go.Callee.value (Go.Operand.func 31), args := #[Go.Operand.tmp 61, Go.Operand.tmp 62], argTypes := #[41, 41] }, type := 41, pos := "law.go:123", after := #[{ on := 8, ground := Go.Ground.data }, { on := 9, ground := Go.Ground.data }, { on := 6, ground := Go.Ground.chain }, { on := 6, ground := Go.Ground.guard }], guard := some (6, true) }) rfl (fun K hK => ?_) AllReadyH.nil
    go_simp
    (go_at_call 31; ((with_reducible refine (J2.out _).mono ?_); rintro e v1 ⟨rfl, gb1⟩))
    refine hK.out _ _ ?_ (fun hHeld10 => ?_)
    · (try dsimp only); (((first | (go_split_ands; skip) | skip); (repeat' apply And.intro) <;> (first | assumption | (with_reducible exact blk_drew (by assumption)) | (with_reducible exact blk_later (by simp) (by assumption) (by assumption)))))
    clear hK K hHeld
    try simp only [Act.put, List.setIfInBounds_toArray, List.set_cons_zero, List.set_cons_succ]
    refine wpAnyH_take (i := 11) (oi := { dst := some 64, op := Go.Op.binOp Go.BinOp.eql 41 (Go.Operand.tmp 60) (Go.Operand.tmp 63) 41, type := 4, pos := "law.go:123", after := #[{ on := 7, ground := Go.Ground.data }, { on := 10, ground := Go.Ground.data }, { on := 6, ground := Go.Ground.guard }], guard := some (6, true) }) (v := ?_) rfl (by kernel_rfl) (by kernel_rfl) (by kernel_rfl) (fun _ _ _ h => h) (Or.inl ⟨by rfl, ?_⟩) (by assumption) ?_
    rotate_left
    · intro w hSw; (try dsimp only at hSw); go_simp; (try with_reducible rfl)
    try simp only [Act.put, List.setIfInBounds_toArray, List.set_cons_zero, List.set_cons_succ]
    refine wpAnyH_take (i := 12) (oi := { dst := some 65, op := Go.Op.pick (Go.Operand.tmp 59) (Go.Operand.tmp 64) (Go.Operand.const (Go.Value.bool false)), type := 4, pos := "law.go:123", after := #[{ on := 6, ground := Go.Ground.data }, { on := 11, ground := Go.Ground.data }], guard := none }) (v := ?_) rfl (by kernel_rfl) (by kernel_rfl) (by kernel_rfl) (fun _ _ _ h => h) (Or.inl ⟨by rfl, ?_⟩) (by assumption) ?_
    rotate_left
    · intro w hSw; (try dsimp only at hSw); go_simp; (try with_reducible rfl)
    try simp only [Act.put, List.setIfInBounds_toArray, List.set_cons_zero, List.set_cons_succ]
    refine wpAnyH_take (i := 13) (oi := { dst := some 66, op := Go.Op.move (Go.Operand.tmp 65), type := 4, pos := "law.go:123", after := #[{ on := 12, ground := Go.Ground.data }, { on := 10, ground := Go.Ground.chain }], guard := none }) (v := ?_) rfl (by kernel_rfl) (by kernel_rfl) (by kernel_rfl) (fun _ _ _ h => h) (Or.inl ⟨by rfl, ?_⟩) (by assumption) ?_
    rotate_left
    · intro w hSw; (try dsimp only at hSw); go_simp; (try with_reducible rfl)
    try simp only [Act.put, List.setIfInBounds_toArray, List.set_cons_zero, List.set_cons_succ]
    refine wpAnyH_take (i := 14) (oi := { dst := some 67, op := Go.Op.load 41 (Go.Operand.tmp 7), type := 41, pos := "law.go:123", after := #[{ on := 13, ground := Go.Ground.guard }], guard := some (13, true) }) (v := ?_) rfl (by kernel_rfl) (by kernel_rfl) (by kernel_rfl) (fun _ _ _ h => h) (Or.inl ⟨by rfl, ?_⟩) (by assumption) ?_
    rotate_left
    · intro w hSw; (try dsimp only at hSw); go_simp; (try with_reducible rfl)
    try simp only [Act.put, List.setIfInBounds_toArray, List.set_cons_zero, List.set_cons_succ]
    refine wpAnyH_take (i := 15) (oi := { dst := some 68, op := Go.Op.load 23 (Go.Operand.tmp 5), type := 23, pos := "law.go:123", after := #[{ on := 13, ground := Go.Ground.guard }], guard := some (13, true) }) (v := ?_) rfl (by kernel_rfl) (by kernel_rfl) (by kernel_rfl) (fun _ _ _ h => h) (Or.inl ⟨by rfl, ?_⟩) (by assumption) ?_
    rotate_left
    · intro w hSw; (try dsimp only at hSw); go_simp; (try with_reducible rfl)
    try simp only [Act.put, List.setIfInBounds_toArray, List.set_cons_zero, List.set_cons_succ]
    refine wpAnyH_ready (rs := [16]) (by kernel_rfl) (by simp) ?_
    refine AllReadyH.cons (o := { dst := some 69, op := Go.Op.call { callee := Go.Callee.value (Go.Operand.func 33), args := #[Go.Operand.tmp 67, Go.Operand.tmp 68], argTypes := #[41, 23] }, type := 4, pos := "law.go:123", after := #[{ on := 14, ground := Go.Ground.data }, { on := 15, ground := Go.Ground.data }, { on := 13, ground := Go.Ground.chain }, { on := 13, ground := Go.Ground.guard }], guard := some (13, true) }) rfl (fun K hK => ?_) AllReadyH.nil
    go_simp
    (go_at_call 33; ((with_reducible refine (H1.out _).mono ?_); rintro e v2 ⟨rfl, gb2⟩))
    refine hK.out _ _ ?_ (fun hHeld16 => ?_)
    · (try dsimp only); (((first | (go_split_ands; skip) | skip); (repeat' apply And.intro) <;> (first | assumption | (with_reducible exact blk_drew (by assumption)) | (with_reducible exact blk_later (by simp) (by assumption) (by assumption)))))
    clear hK K hHeld10
    try simp only [Act.put, List.setIfInBounds_toArray, List.set_cons_zero, List.set_cons_succ]
    refine wpAnyH_take (i := 17) (oi := { dst := some 70, op := Go.Op.unOp Go.UnOp.not 4 (Go.Operand.tmp 69), type := 4, pos := "law.go:123", after := #[{ on := 16, ground := Go.Ground.data }, { on := 13, ground := Go.Ground.guard }], guard := some (13, true) }) (v := ?_) rfl (by kernel_rfl) (by kernel_rfl) (by kernel_rfl) (fun _ _ _ h => h) (Or.inl ⟨by rfl, ?_⟩) (by assumption) ?_
    rotate_left
    · intro w hSw; (try dsimp only at hSw); go_simp; (try with_reducible rfl)
    try simp only [Act.put, List.setIfInBounds_toArray, List.set_cons_zero, List.set_cons_succ]
    refine wpAnyH_take (i := 18) (oi := { dst := some 71, op := Go.Op.move (Go.Operand.tmp 70), type := 4, pos := "law.go:123", after := #[{ on := 17, ground := Go.Ground.data }, { on := 16, ground := Go.Ground.chain }, { on := 13, ground := Go.Ground.guard }], guard := some (13, true) }) (v := ?_) rfl (by kernel_rfl) (by kernel_rfl) (by kernel_rfl) (fun _ _ _ h => h) (Or.inl ⟨by rfl, ?_⟩) (by assumption) ?_
    rotate_left
    · intro w hSw; (try dsimp only at hSw); go_simp; (try with_reducible rfl)
    try simp only [Act.put, List.setIfInBounds_toArray, List.set_cons_zero, List.set_cons_succ]
    refine wpAnyH_take (i := 19) (oi := { dst := some 72, op := Go.Op.load 41 (Go.Operand.tmp 9), type := 41, pos := "law.go:123", after := #[{ on := 18, ground := Go.Ground.guard }], guard := some (18, true) }) (v := undef) rfl (by kernel_rfl) (by kernel_rfl) (by kernel_rfl) (fun _ _ _ h => h) (Or.inr ⟨by rfl, rfl⟩) (by assumption) ?_
    try simp only [Act.put, List.setIfInBounds_toArray, List.set_cons_zero, List.set_cons_succ]
    refine wpAnyH_take (i := 20) (oi := { dst := some 73, op := Go.Op.load 23 (Go.Operand.tmp 5), type := 23, pos := "law.go:123", after := #[{ on := 18, ground := Go.Ground.guard }], guard := some (18, true) }) (v := undef) rfl (by kernel_rfl) (by kernel_rfl) (by kernel_rfl) (fun _ _ _ h => h) (Or.inr ⟨by rfl, rfl⟩) (by assumption) ?_
    try simp only [Act.put, List.setIfInBounds_toArray, List.set_cons_zero, List.set_cons_succ]
    refine wpAnyH_take (i := 21) (oi := { dst := some 74, op := Go.Op.call { callee := Go.Callee.value (Go.Operand.func 33), args := #[Go.Operand.tmp 72, Go.Operand.tmp 73], argTypes := #[41, 23] }, type := 4, pos := "law.go:123", after := #[{ on := 19, ground := Go.Ground.data }, { on := 20, ground := Go.Ground.data }, { on := 18, ground := Go.Ground.chain }, { on := 18, ground := Go.Ground.guard }], guard := some (18, true) }) (v := undef) rfl (by kernel_rfl) (by kernel_rfl) (by kernel_rfl) (fun _ _ _ h => h) (Or.inr ⟨by rfl, rfl⟩) (by assumption) ?_
    try simp only [Act.put, List.setIfInBounds_toArray, List.set_cons_zero, List.set_cons_succ]
    refine wpAnyH_take (i := 22) (oi := { dst := some 75, op := Go.Op.unOp Go.UnOp.not 4 (Go.Operand.tmp 74), type := 4, pos := "law.go:123", after := #[{ on := 21, ground := Go.Ground.data }, { on := 18, ground := Go.Ground.guard }], guard := some (18, true) }) (v := undef) rfl (by kernel_rfl) (by kernel_rfl) (by kernel_rfl) (fun _ _ _ h => h) (Or.inr ⟨by rfl, rfl⟩) (by assumption) ?_
    try simp only [Act.put, List.setIfInBounds_toArray, List.set_cons_zero, List.set_cons_succ]
    refine wpAnyH_take (i := 23) (oi := { dst := some 76, op := Go.Op.pick (Go.Operand.tmp 71) (Go.Operand.tmp 75) (Go.Operand.const (Go.Value.bool false)), type := 4, pos := "law.go:123", after := #[{ on := 18, ground := Go.Ground.data }, { on := 22, ground := Go.Ground.data }, { on := 13, ground := Go.Ground.guard }], guard := some (13, true) }) (v := ?_) rfl (by kernel_rfl) (by kernel_rfl) (by kernel_rfl) (fun _ _ _ h => h) (Or.inl ⟨by rfl, ?_⟩) (by assumption) ?_
    rotate_left
    · intro w hSw; (try dsimp only at hSw); go_simp; (try with_reducible rfl)
    try simp only [Act.put, List.setIfInBounds_toArray, List.set_cons_zero, List.set_cons_succ]
    refine wpAnyH_take (i := 24) (oi := { dst := some 77, op := Go.Op.move (Go.Operand.tmp 76), type := 4, pos := "law.go:123", after := #[{ on := 23, ground := Go.Ground.data }, { on := 21, ground := Go.Ground.chain }, { on := 13, ground := Go.Ground.guard }], guard := some (13, true) }) (v := ?_) rfl (by kernel_rfl) (by kernel_rfl) (by kernel_rfl) (fun _ _ _ h => h) (Or.inl ⟨by rfl, ?_⟩) (by assumption) ?_
    rotate_left
    · intro w hSw; (try dsimp only at hSw); go_simp; (try with_reducible rfl)
    try simp only [Act.put, List.setIfInBounds_toArray, List.set_cons_zero, List.set_cons_succ]
    refine wpAnyH_take (i := 25) (oi := { dst := some 78, op := Go.Op.load 41 (Go.Operand.tmp 14), type := 41, pos := "law.go:123", after := #[{ on := 24, ground := Go.Ground.guard }], guard := some (24, false) }) (v := ?_) rfl (by kernel_rfl) (by kernel_rfl) (by kernel_rfl) (fun _ _ _ h => h) (Or.inl ⟨by rfl, ?_⟩) (by assumption) ?_
    rotate_left
    · intro w hSw; (try dsimp only at hSw); go_simp; (try with_reducible rfl)
    try simp only [Act.put, List.setIfInBounds_toArray, List.set_cons_zero, List.set_cons_succ]
    refine wpAnyH_take (i := 26) (oi := { dst := some 79, op := Go.Op.load 23 (Go.Operand.tmp 5), type := 23, pos := "law.go:123", after := #[{ on := 24, ground := Go.Ground.guard }], guard := some (24, false) }) (v := ?_) rfl (by kernel_rfl) (by kernel_rfl) (by kernel_rfl) (fun _ _ _ h => h) (Or.inl ⟨by rfl, ?_⟩) (by assumption) ?_
    rotate_left
    · intro w hSw; (try dsimp only at hSw); go_simp; (try with_reducible rfl)
    try simp only [Act.put, List.setIfInBounds_toArray, List.set_cons_zero, List.set_cons_succ]
    refine wpAnyH_ready (rs := [27]) (by kernel_rfl) (by simp) ?_
    refine AllReadyH.cons (o := { dst := some 80, op := Go.Op.call { callee := Go.Callee.value (Go.Operand.func 33), args := #[Go.Operand.tmp 78, Go.Operand.tmp 79], argTypes := #[41, 23] }, type := 4, pos := "law.go:123", after := #[{ on := 25, ground := Go.Ground.data }, { on := 26, ground := Go.Ground.data }, { on := 24, ground := Go.Ground.chain }, { on := 24, ground := Go.Ground.guard }], guard := some (24, false) }) rfl (fun K hK => ?_) AllReadyH.nil
    go_simp
    (go_at_call 33; ((with_reducible refine (H3.out _).mono ?_); rintro e v4 ⟨rfl, gb4⟩))
    refine hK.out _ _ ?_ (fun hHeld27 => ?_)
    · (try dsimp only); (((first | (go_split_ands; skip) | skip); (repeat' apply And.intro) <;> (first | assumption | (with_reducible exact blk_drew (by assumption)) | (with_reducible exact blk_later (by simp) (by assumption) (by assumption)))))
    clear hK K hHeld16
    try simp only [Act.put, List.setIfInBounds_toArray, List.set_cons_zero, List.set_cons_succ]
    refine wpAnyH_take (i := 28) (oi := { dst := some 81, op := Go.Op.pick (Go.Operand.tmp 77) (Go.Operand.const (Go.Value.bool true)) (Go.Operand.tmp 80), type := 4, pos := "law.go:123", after := #[{ on := 24, ground := Go.Ground.data }, { on := 27, ground := Go.Ground.data }, { on := 13, ground := Go.Ground.guard }], guard := some (13, true) }) (v := ?_) rfl (by kernel_rfl) (by kernel_rfl) (by kernel_rfl) (fun _ _ _ h => h) (Or.inl ⟨by rfl, ?_⟩) (by assumption) ?_
    rotate_left
    · intro w hSw; (try dsimp only at hSw); go_simp; (try with_reducible rfl)
    try simp only [Act.put, List.setIfInBounds_toArray, List.set_cons_zero, List.set_cons_succ]
    refine wpAnyH_take (i := 29) (oi := { dst := some 82, op := Go.Op.pick (Go.Operand.tmp 66) (Go.Operand.tmp 81) (Go.Operand.const (Go.Value.bool false)), type := 4, pos := "law.go:123", after := #[{ on := 13, ground := Go.Ground.data }, { on := 28, ground := Go.Ground.data }], guard := none }) (v := ?_) rfl (by kernel_rfl) (by kernel_rfl) (by kernel_rfl) (fun _ _ _ h => h) (Or.inl ⟨by rfl, ?_⟩) (by assumption) ?_
    rotate_left
    · intro w hSw; (try dsimp only at hSw); go_simp; (try with_reducible rfl)
    try simp only [Act.put, List.setIfInBounds_toArray, List.set_cons_zero, List.set_cons_succ]
    refine wpAnyH_take (i := 30) (oi := { dst := some 6, op := Go.Op.assign (Go.Operand.tmp 82), type := 4, pos := "law.go:123", after := #[{ on := 29, ground := Go.Ground.data }, { on := 27, ground := Go.Ground.chain }, { on := 0, ground := Go.Ground.phase }, { on := 1, ground := Go.Ground.phase }, { on := 2, ground := Go.Ground.phase }, { on := 3, ground := Go.Ground.phase }, { on := 4, ground := Go.Ground.phase }, { on := 5, ground := Go.Ground.phase }, { on := 6, ground := Go.Ground.phase }, { on := 7, ground := Go.Ground.phase }, { on := 8, ground := Go.Ground.phase }, { on := 9, ground := Go.Ground.phase }, { on := 10, ground := Go.Ground.phase }, { on := 11, ground := Go.Ground.phase }, { on := 12, ground := Go.Ground.phase }, { on := 13, ground := Go.Ground.phase }, { on := 14, ground := Go.Ground.phase }, { on := 15, ground := Go.Ground.phase }, { on := 16, ground := Go.Ground.phase }, { on := 17, ground := Go.Ground.phase }, { on := 18, ground := Go.Ground.phase }, { on := 19, ground := Go.Ground.phase }, { on := 20, ground := Go.Ground.phase }, { on := 21, ground := Go.Ground.phase }, { on := 22, ground := Go.Ground.phase }, { on := 23, ground := Go.Ground.phase }, { on := 24, ground := Go.Ground.phase }, { on := 25, ground := Go.Ground.phase }, { on := 26, ground := Go.Ground.phase }, { on := 27, ground := Go.Ground.phase }, { on := 28, ground := Go.Ground.phase }, { on := 29, ground := Go.Ground.phase }], guard := none }) (v := ?_) rfl (by kernel_rfl) (by kernel_rfl) (by kernel_rfl) (fun _ _ _ h => h) (Or.inl ⟨by rfl, ?_⟩) (by assumption) ?_
    rotate_left
    · intro w hSw; (try dsimp only at hSw); go_simp; (try with_reducible rfl)
    try simp only [Act.put, List.setIfInBounds_toArray, List.set_cons_zero, List.set_cons_succ]
    refine wpAnyH_done (by kernel_rfl) ?_ _
    go_wp2_with fail
    go_returns
    exact ⟨by simp, by (repeat' (first | (with_reducible assumption) | (with_reducible exact Below.refl _ _) | (with_reducible refine bstep (by with_reducible assumption) ?_) | (with_reducible refine Below.alloc ?_ ?_ _) | (with_reducible refine Below.drew ?_) | (with_reducible refine below_drewN ?_ _) | (with_reducible refine Below.setCell ?_ ?_ _) | go_size))⟩
  · obtain rfl : u3 = true := HU (.inl rfl)
    clear HH HU
    go_enter Try.func11, Try.ntmps11
    go_wp2_with (first
      | (go_at_call 20; ((with_reducible refine (alive02_any _).mono ?_); rintro e w1 ⟨rfl, hb1⟩; have P1 : ∀ o, w1.cell? ⟨w.heap.size, o, none⟩ = (#[.int .i64 x, .int .i64 y, .int .i64 z] : Array Value)[o]? := blk_later (by simp) hb1 (by (repeat (first | (with_reducible assumption) | (focus ((with_reducible refine new_at ?_ _ _); (repeat (first | (with_reducible rfl) | (with_reducible refine sz1 ?_))); done)) | (with_reducible refine blk_alloc (by simp) _ ?_) | (with_reducible refine blk_drew ?_)))); have s1 : w.heap.size < w1.heap.size := blk_lt (by simp) P1))
      | (go_at_call 29; ((with_reducible refine (BA.out _ ?_).mono ?_); (focus ((repeat' (first | (with_reducible exact Below.refl _ _) | (with_reducible refine bstep (by with_reducible assumption) ?_) | (with_reducible refine Below.alloc ?_ ?_ _) | (with_reducible refine Below.drew ?_) | (with_reducible refine below_drewN ?_ _) | (with_reducible refine Below.setCell ?_ ?_ _) | go_size)))); rintro e w2 ⟨rfl, hb2⟩; have P2 := blk_later (by simp) hb2 P1; have s2 : w.heap.size < w2.heap.size := blk_lt (by simp) P2; clear P1))
      | (go_at_call 29; ((with_reducible refine (BB.out _ ?_).mono ?_); (focus ((repeat' (first | (with_reducible exact Below.refl _ _) | (with_reducible refine bstep (by with_reducible assumption) ?_) | (with_reducible refine Below.alloc ?_ ?_ _) | (with_reducible refine Below.drew ?_) | (with_reducible refine below_drewN ?_ _) | (with_reducible refine Below.setCell ?_ ?_ _) | go_size)))); rintro e w3 ⟨rfl, hb3⟩; have P3 := blk_later (by simp) hb3 (blk_alloc (by simp) _ P2); have X3 := blk_later (by simp) hb3 (new_at rfl _ _); have s3 : w.heap.size < w3.heap.size := blk_lt (by simp) P3; have s3x : w2.heap.size < w3.heap.size := blk_lt (by simp) X3; clear P2))
      | (go_at_call 28; ((with_reducible refine (CA.out _ ?_).mono ?_); (focus ((repeat' (first | (with_reducible exact Below.refl _ _) | (with_reducible refine bstep (by with_reducible assumption) ?_) | (with_reducible refine Below.alloc ?_ ?_ _) | (with_reducible refine Below.drew ?_) | (with_reducible refine below_drewN ?_ _) | (with_reducible refine Below.setCell ?_ ?_ _) | go_size)))); rintro e w4 ⟨g, cap, rfl, hg, hPt, hb4, own4, hg4⟩; have P4 := blk_later (by simp) hb4 (blk_alloc (by simp) _ P3); have X4 := blk_later (by simp) hb4 (blk_alloc (by simp) _ X3); have Y4 := blk_later (by simp) hb4 (new_at rfl _ _); have s4 : w3.heap.size < w4.heap.size := blk_lt (by simp) Y4; have HB4 : Below w.heap.size w w4 := (by (repeat' (first | (with_reducible exact Below.refl _ _) | (with_reducible refine bstep (by with_reducible assumption) ?_) | (with_reducible refine Below.alloc ?_ ?_ _) | (with_reducible refine Below.drew ?_) | (with_reducible refine below_drewN ?_ _) | (with_reducible refine Below.setCell ?_ ?_ _) | go_size))); clear P3 X3))
      | (at_builtin; refine wpList_append_lies _ rfl _ _ 39 rfl _ 23 i0 (V3 0 0 0) 3 24 Try.underlying39 ji jz0 jz1 jz2 rfl (by decide) _ _ _ rfl own4 ⟨bb, ob, none⟩ nb cb (nw nb Y) rfl (by simp [nw]) (fun j u hu => ?_) (fun u hu => ?_) k1 (by unfold maxLen; omega) (by omega) hb4.size _ rfl (fun h cap2 w5 h1 h2 h3 h4 => ?_))
      | (go_at_call 29; ((with_reducible refine (BC.out _ _ ?_).mono ?_); (focus (exact pts_of_owns h1 (by omega) h4 (fun o ho => nw_cat na nb X Y o ho))); rintro e w6 ⟨rfl, hb6⟩; have HB5 := Below.grown (Below.refl _ _) h2 hb4.size (fun k hk => (by have hk' : some g = some k := hk; have := Option.some.inj hk'; omega)); have P6 := blk_later (by simp) hb6 (blk_below HB5 (by rw [World.size_alloc]; omega) P4); have X6 := blk_later (by simp) hb6 (blk_below HB5 (by rw [World.size_alloc]; omega) X4); have Y6 := blk_later (by simp) hb6 (blk_below HB5 (by rw [World.size_alloc]; omega) Y4); have HW5 : Below w.heap.size w w5 := HB4.trans (HB5.mono (by rw [World.size_alloc]; omega)); have s6 : w3.heap.size < w6.heap.size := blk_lt (by simp) Y6; have s6x : w2.heap.size < w6.heap.size := (by omega); have s6p : w.heap.size < w6.heap.size := (by omega); clear P4 X4 Y4))
      | (go_at_call 31; ((with_reducible refine (J1.out _).mono ?_); rintro e w7 ⟨rfl, hb7⟩; have P7 := blk_later (by simp) hb7 (blk_alloc (by simp) _ P6); have X7 := blk_later (by simp) hb7 (blk_alloc (by simp) _ X6); have Y7 := blk_later (by simp) hb7 (blk_alloc (by simp) _ Y6); have Z7 := blk_later (by simp) hb7 (new_at rfl _ _); have s7 : w6.heap.size < w7.heap.size := blk_lt (by simp) Z7; clear P6 X6 Y6)))
    case refine_1 =>
      rw [nw, List.getElem?_map, Option.map_eq_some_iff] at hu
      obtain ⟨o, ho, rfl⟩ := hu
      rw [List.getElem?_eq_some_iff] at ho
      obtain ⟨hlo, rfl⟩ := ho
      simp only [List.getElem_range] at *
      first | rw [Go.WideShapes.add_plain] | skip
      rw [HB4.cell (p := ⟨bb, ob + j, none⟩) k4]
      exact K5.out j (by simpa using hlo)
    case refine_2 =>
      rw [nw, List.mem_map] at hu
      obtain ⟨o, _, rfl⟩ := hu
      rfl
    have P8 := blk_alloc (by simp) (.cells #[.int .i64 c0, .int .i64 c1, .int .i64 c2, .int .i64 c3, .int .i64 c4, .int .i64 c5] 41) P7
    have X8 := blk_alloc (by simp) (.cells #[.int .i64 c0, .int .i64 c1, .int .i64 c2, .int .i64 c3, .int .i64 c4, .int .i64 c5] 41) X7
    have Y8 := blk_alloc (by simp) (.cells #[.int .i64 c0, .int .i64 c1, .int .i64 c2, .int .i64 c3, .int .i64 c4, .int .i64 c5] 41) Y7
    have Z8 := blk_alloc (by simp) (.cells #[.int .i64 c0, .int .i64 c1, .int .i64 c2, .int .i64 c3, .int .i64 c4, .int .i64 c5] 41) Z7
    have W8 : ∀ o, (w7.alloc (.cells #[.int .i64 c0, .int .i64 c1, .int .i64 c2, .int .i64 c3, .int .i64 c4, .int .i64 c5] 41)).cell? ⟨w7.heap.size, o, none⟩ = (#[.int .i64 c0, .int .i64 c1, .int .i64 c2, .int .i64 c3, .int .i64 c4, .int .i64 c5] : Array Value)[o]? := new_at rfl _ _
    refine wp_region_held_drew (S := (fun w' => (∀ o, w'.cell? ⟨w.heap.size, o, none⟩ = (#[.int .i64 x, .int .i64 y, .int .i64 z] : Array Value)[o]?) ∧ (∀ o, w'.cell? ⟨w2.heap.size, o, none⟩ = (#[.int .i64 a0, .int .i64 a1, .int .i64 a2, .int .i64 a3, .int .i64 a4, .int .i64 a5] : Array Value)[o]?) ∧ (∀ o, w'.cell? ⟨w3.heap.size, o, none⟩ = (#[.int .i64 b0, .int .i64 b1, .int .i64 b2, .int .i64 b3, .int .i64 b4, .int .i64 b5] : Array Value)[o]?) ∧ (∀ o, w'.cell? ⟨w6.heap.size, o, none⟩ = (#[.int .i64 c0, .int .i64 c1, .int .i64 c2, .int .i64 c3, .int .i64 c4, .int .i64 c5] : Array Value)[o]?) ∧ (∀ o, w'.cell? ⟨w7.heap.size, o, none⟩ = (#[.int .i64 c0, .int .i64 c1, .int .i64 c2, .int .i64 c3, .int .i64 c4, .int .i64 c5] : Array Value)[o]?))) (by kernel_rfl) ?_ (fun hHeld => ?_)
    · (try dsimp only); (((first | (go_split_ands; skip) | skip); (repeat' apply And.intro) <;> (first | assumption | (with_reducible exact blk_drew (by assumption)) | (with_reducible exact blk_later (by simp) (by assumption) (by assumption)))))
    refine wpAnyH_take (i := 0) (oi := { dst := some 53, op := Go.Op.move (Go.Operand.tmp 13), type := 4, pos := "law.go:123", after := #[], guard := none }) (v := ?_) rfl (by kernel_rfl) (by kernel_rfl) (by kernel_rfl) (fun _ _ _ h => h) (Or.inl ⟨by rfl, ?_⟩) (by assumption) ?_
    rotate_left
    · intro w hSw; (try dsimp only at hSw); go_simp; (try with_reducible rfl)
    try simp only [Act.put, List.setIfInBounds_toArray, List.set_cons_zero, List.set_cons_succ]
    refine wpAnyH_take (i := 1) (oi := { dst := some 54, op := Go.Op.move (Go.Operand.tmp 53), type := 4, pos := "law.go:123", after := #[{ on := 0, ground := Go.Ground.data }], guard := none }) (v := ?_) rfl (by kernel_rfl) (by kernel_rfl) (by kernel_rfl) (fun _ _ _ h => h) (Or.inl ⟨by rfl, ?_⟩) (by assumption) ?_
    rotate_left
    · intro w hSw; (try dsimp only at hSw); go_simp; (try with_reducible rfl)
    try simp only [Act.put, List.setIfInBounds_toArray, List.set_cons_zero, List.set_cons_succ]
    refine wpAnyH_take (i := 2) (oi := { dst := some 55, op := Go.Op.load 41 (Go.Operand.tmp 12), type := 41, pos := "law.go:123", after := #[{ on := 1, ground := Go.Ground.guard }], guard := some (1, true) }) (v := ?_) rfl (by kernel_rfl) (by kernel_rfl) (by kernel_rfl) (fun _ _ _ h => h) (Or.inl ⟨by rfl, ?_⟩) (by assumption) ?_
    rotate_left
    · intro w hSw; (try dsimp only at hSw); go_simp; (try with_reducible rfl)
    try simp only [Act.put, List.setIfInBounds_toArray, List.set_cons_zero, List.set_cons_succ]
    refine wpAnyH_take (i := 3) (oi := { dst := some 56, op := Go.Op.load 41 (Go.Operand.tmp 14), type := 41, pos := "law.go:123", after := #[{ on := 1, ground := Go.Ground.guard }], guard := some (1, true) }) (v := ?_) rfl (by kernel_rfl) (by kernel_rfl) (by kernel_rfl) (fun _ _ _ h => h) (Or.inl ⟨by rfl, ?_⟩) (by assumption) ?_
    rotate_left
    · intro w hSw; (try dsimp only at hSw); go_simp; (try with_reducible rfl)
    try simp only [Act.put, List.setIfInBounds_toArray, List.set_cons_zero, List.set_cons_succ]
    refine wpAnyH_take (i := 4) (oi := { dst := some 57, op := Go.Op.binOp Go.BinOp.eql 41 (Go.Operand.tmp 55) (Go.Operand.tmp 56) 41, type := 4, pos := "law.go:123", after := #[{ on := 2, ground := Go.Ground.data }, { on := 3, ground := Go.Ground.data }, { on := 1, ground := Go.Ground.guard }], guard := some (1, true) }) (v := ?_) rfl (by kernel_rfl) (by kernel_rfl) (by kernel_rfl) (fun _ _ _ h => h) (Or.inl ⟨by rfl, ?_⟩) (by assumption) ?_
    rotate_left
    · intro w hSw; (try dsimp only at hSw); go_simp; (try with_reducible rfl)
    try simp only [Act.put, List.setIfInBounds_toArray, List.set_cons_zero, List.set_cons_succ]
    refine wpAnyH_take (i := 5) (oi := { dst := some 58, op := Go.Op.pick (Go.Operand.tmp 54) (Go.Operand.tmp 57) (Go.Operand.const (Go.Value.bool false)), type := 4, pos := "law.go:123", after := #[{ on := 1, ground := Go.Ground.data }, { on := 4, ground := Go.Ground.data }], guard := none }) (v := ?_) rfl (by kernel_rfl) (by kernel_rfl) (by kernel_rfl) (fun _ _ _ h => h) (Or.inl ⟨by rfl, ?_⟩) (by assumption) ?_
    rotate_left
    · intro w hSw; (try dsimp only at hSw); go_simp; (try with_reducible rfl)
    try simp only [Act.put, List.setIfInBounds_toArray, List.set_cons_zero, List.set_cons_succ]
    refine wpAnyH_take (i := 6) (oi := { dst := some 59, op := Go.Op.move (Go.Operand.tmp 58), type := 4, pos := "law.go:123", after := #[{ on := 5, ground := Go.Ground.data }, { on := 1, ground := Go.Ground.chain }], guard := none }) (v := ?_) rfl (by kernel_rfl) (by kernel_rfl) (by kernel_rfl) (fun _ _ _ h => h) (Or.inl ⟨by rfl, ?_⟩) (by assumption) ?_
    rotate_left
    · intro w hSw; (try dsimp only at hSw); go_simp; (try with_reducible rfl)
    try simp only [Act.put, List.setIfInBounds_toArray, List.set_cons_zero, List.set_cons_succ]
    refine wpAnyH_take (i := 7) (oi := { dst := some 60, op := Go.Op.load 41 (Go.Operand.tmp 14), type := 41, pos := "law.go:123", after := #[{ on := 6, ground := Go.Ground.guard }], guard := some (6, true) }) (v := ?_) rfl (by kernel_rfl) (by kernel_rfl) (by kernel_rfl) (fun _ _ _ h => h) (Or.inl ⟨by rfl, ?_⟩) (by assumption) ?_
    rotate_left
    · intro w hSw; (try dsimp only at hSw); go_simp; (try with_reducible rfl)
    try simp only [Act.put, List.setIfInBounds_toArray, List.set_cons_zero, List.set_cons_succ]
    refine wpAnyH_take (i := 8) (oi := { dst := some 61, op := Go.Op.load 41 (Go.Operand.tmp 9), type := 41, pos := "law.go:123", after := #[{ on := 6, ground := Go.Ground.guard }], guard := some (6, true) }) (v := ?_) rfl (by kernel_rfl) (by kernel_rfl) (by kernel_rfl) (fun _ _ _ h => h) (Or.inl ⟨by rfl, ?_⟩) (by assumption) ?_
    rotate_left
    · intro w hSw; (try dsimp only at hSw); go_simp; (try with_reducible rfl)
    try simp only [Act.put, List.setIfInBounds_toArray, List.set_cons_zero, List.set_cons_succ]
    refine wpAnyH_take (i := 9) (oi := { dst := some 62, op := Go.Op.load 41 (Go.Operand.tmp 7), type := 41, pos := "law.go:123", after := #[{ on := 6, ground := Go.Ground.guard }], guard := some (6, true) }) (v := ?_) rfl (by kernel_rfl) (by kernel_rfl) (by kernel_rfl) (fun _ _ _ h => h) (Or.inl ⟨by rfl, ?_⟩) (by assumption) ?_
    rotate_left
    · intro w hSw; (try dsimp only at hSw); go_simp; (try with_reducible rfl)
    try simp only [Act.put, List.setIfInBounds_toArray, List.set_cons_zero, List.set_cons_succ]
    refine wpAnyH_ready (rs := [10]) (by kernel_rfl) (by simp) ?_
    refine AllReadyH.cons (o := { dst := some 63, op := Go.Op.call { callee := Go.Callee.value (Go.Operand.func 31), args := #[Go.Operand.tmp 61, Go.Operand.tmp 62], argTypes := #[41, 41] }, type := 41, pos := "law.go:123", after := #[{ on := 8, ground := Go.Ground.data }, { on := 9, ground := Go.Ground.data }, { on := 6, ground := Go.Ground.chain }, { on := 6, ground := Go.Ground.guard }], guard := some (6, true) }) rfl (fun K hK => ?_) AllReadyH.nil
    go_simp
    (go_at_call 31; ((with_reducible refine (J2.out _).mono ?_); rintro e v1 ⟨rfl, gb1⟩))
    refine hK.out _ _ ?_ (fun hHeld10 => ?_)
    · (try dsimp only); (((first | (go_split_ands; skip) | skip); (repeat' apply And.intro) <;> (first | assumption | (with_reducible exact blk_drew (by assumption)) | (with_reducible exact blk_later (by simp) (by assumption) (by assumption)))))
    clear hK K hHeld
    try simp only [Act.put, List.setIfInBounds_toArray, List.set_cons_zero, List.set_cons_succ]
    refine wpAnyH_take (i := 11) (oi := { dst := some 64, op := Go.Op.binOp Go.BinOp.eql 41 (Go.Operand.tmp 60) (Go.Operand.tmp 63) 41, type := 4, pos := "law.go:123", after := #[{ on := 7, ground := Go.Ground.data }, { on := 10, ground := Go.Ground.data }, { on := 6, ground := Go.Ground.guard }], guard := some (6, true) }) (v := ?_) rfl (by kernel_rfl) (by kernel_rfl) (by kernel_rfl) (fun _ _ _ h => h) (Or.inl ⟨by rfl, ?_⟩) (by assumption) ?_
    rotate_left
    · intro w hSw; (try dsimp only at hSw); go_simp; (try with_reducible rfl)
    try simp only [Act.put, List.setIfInBounds_toArray, List.set_cons_zero, List.set_cons_succ]
    refine wpAnyH_take (i := 12) (oi := { dst := some 65, op := Go.Op.pick (Go.Operand.tmp 59) (Go.Operand.tmp 64) (Go.Operand.const (Go.Value.bool false)), type := 4, pos := "law.go:123", after := #[{ on := 6, ground := Go.Ground.data }, { on := 11, ground := Go.Ground.data }], guard := none }) (v := ?_) rfl (by kernel_rfl) (by kernel_rfl) (by kernel_rfl) (fun _ _ _ h => h) (Or.inl ⟨by rfl, ?_⟩) (by assumption) ?_
    rotate_left
    · intro w hSw; (try dsimp only at hSw); go_simp; (try with_reducible rfl)
    try simp only [Act.put, List.setIfInBounds_toArray, List.set_cons_zero, List.set_cons_succ]
    refine wpAnyH_take (i := 13) (oi := { dst := some 66, op := Go.Op.move (Go.Operand.tmp 65), type := 4, pos := "law.go:123", after := #[{ on := 12, ground := Go.Ground.data }, { on := 10, ground := Go.Ground.chain }], guard := none }) (v := ?_) rfl (by kernel_rfl) (by kernel_rfl) (by kernel_rfl) (fun _ _ _ h => h) (Or.inl ⟨by rfl, ?_⟩) (by assumption) ?_
    rotate_left
    · intro w hSw; (try dsimp only at hSw); go_simp; (try with_reducible rfl)
    try simp only [Act.put, List.setIfInBounds_toArray, List.set_cons_zero, List.set_cons_succ]
    refine wpAnyH_take (i := 14) (oi := { dst := some 67, op := Go.Op.load 41 (Go.Operand.tmp 7), type := 41, pos := "law.go:123", after := #[{ on := 13, ground := Go.Ground.guard }], guard := some (13, true) }) (v := ?_) rfl (by kernel_rfl) (by kernel_rfl) (by kernel_rfl) (fun _ _ _ h => h) (Or.inl ⟨by rfl, ?_⟩) (by assumption) ?_
    rotate_left
    · intro w hSw; (try dsimp only at hSw); go_simp; (try with_reducible rfl)
    try simp only [Act.put, List.setIfInBounds_toArray, List.set_cons_zero, List.set_cons_succ]
    refine wpAnyH_take (i := 15) (oi := { dst := some 68, op := Go.Op.load 23 (Go.Operand.tmp 5), type := 23, pos := "law.go:123", after := #[{ on := 13, ground := Go.Ground.guard }], guard := some (13, true) }) (v := ?_) rfl (by kernel_rfl) (by kernel_rfl) (by kernel_rfl) (fun _ _ _ h => h) (Or.inl ⟨by rfl, ?_⟩) (by assumption) ?_
    rotate_left
    · intro w hSw; (try dsimp only at hSw); go_simp; (try with_reducible rfl)
    try simp only [Act.put, List.setIfInBounds_toArray, List.set_cons_zero, List.set_cons_succ]
    refine wpAnyH_ready (rs := [16]) (by kernel_rfl) (by simp) ?_
    refine AllReadyH.cons (o := { dst := some 69, op := Go.Op.call { callee := Go.Callee.value (Go.Operand.func 33), args := #[Go.Operand.tmp 67, Go.Operand.tmp 68], argTypes := #[41, 23] }, type := 4, pos := "law.go:123", after := #[{ on := 14, ground := Go.Ground.data }, { on := 15, ground := Go.Ground.data }, { on := 13, ground := Go.Ground.chain }, { on := 13, ground := Go.Ground.guard }], guard := some (13, true) }) rfl (fun K hK => ?_) AllReadyH.nil
    go_simp
    (go_at_call 33; ((with_reducible refine (H1.out _).mono ?_); rintro e v2 ⟨rfl, gb2⟩))
    refine hK.out _ _ ?_ (fun hHeld16 => ?_)
    · (try dsimp only); (((first | (go_split_ands; skip) | skip); (repeat' apply And.intro) <;> (first | assumption | (with_reducible exact blk_drew (by assumption)) | (with_reducible exact blk_later (by simp) (by assumption) (by assumption)))))
    clear hK K hHeld10
    try simp only [Act.put, List.setIfInBounds_toArray, List.set_cons_zero, List.set_cons_succ]
    refine wpAnyH_take (i := 17) (oi := { dst := some 70, op := Go.Op.unOp Go.UnOp.not 4 (Go.Operand.tmp 69), type := 4, pos := "law.go:123", after := #[{ on := 16, ground := Go.Ground.data }, { on := 13, ground := Go.Ground.guard }], guard := some (13, true) }) (v := ?_) rfl (by kernel_rfl) (by kernel_rfl) (by kernel_rfl) (fun _ _ _ h => h) (Or.inl ⟨by rfl, ?_⟩) (by assumption) ?_
    rotate_left
    · intro w hSw; (try dsimp only at hSw); go_simp; (try with_reducible rfl)
    try simp only [Act.put, List.setIfInBounds_toArray, List.set_cons_zero, List.set_cons_succ]
    refine wpAnyH_take (i := 18) (oi := { dst := some 71, op := Go.Op.move (Go.Operand.tmp 70), type := 4, pos := "law.go:123", after := #[{ on := 17, ground := Go.Ground.data }, { on := 16, ground := Go.Ground.chain }, { on := 13, ground := Go.Ground.guard }], guard := some (13, true) }) (v := ?_) rfl (by kernel_rfl) (by kernel_rfl) (by kernel_rfl) (fun _ _ _ h => h) (Or.inl ⟨by rfl, ?_⟩) (by assumption) ?_
    rotate_left
    · intro w hSw; (try dsimp only at hSw); go_simp; (try with_reducible rfl)
    try simp only [Act.put, List.setIfInBounds_toArray, List.set_cons_zero, List.set_cons_succ]
    refine wpAnyH_take (i := 19) (oi := { dst := some 72, op := Go.Op.load 41 (Go.Operand.tmp 9), type := 41, pos := "law.go:123", after := #[{ on := 18, ground := Go.Ground.guard }], guard := some (18, true) }) (v := undef) rfl (by kernel_rfl) (by kernel_rfl) (by kernel_rfl) (fun _ _ _ h => h) (Or.inr ⟨by rfl, rfl⟩) (by assumption) ?_
    try simp only [Act.put, List.setIfInBounds_toArray, List.set_cons_zero, List.set_cons_succ]
    refine wpAnyH_take (i := 20) (oi := { dst := some 73, op := Go.Op.load 23 (Go.Operand.tmp 5), type := 23, pos := "law.go:123", after := #[{ on := 18, ground := Go.Ground.guard }], guard := some (18, true) }) (v := undef) rfl (by kernel_rfl) (by kernel_rfl) (by kernel_rfl) (fun _ _ _ h => h) (Or.inr ⟨by rfl, rfl⟩) (by assumption) ?_
    try simp only [Act.put, List.setIfInBounds_toArray, List.set_cons_zero, List.set_cons_succ]
    refine wpAnyH_take (i := 21) (oi := { dst := some 74, op := Go.Op.call { callee := Go.Callee.value (Go.Operand.func 33), args := #[Go.Operand.tmp 72, Go.Operand.tmp 73], argTypes := #[41, 23] }, type := 4, pos := "law.go:123", after := #[{ on := 19, ground := Go.Ground.data }, { on := 20, ground := Go.Ground.data }, { on := 18, ground := Go.Ground.chain }, { on := 18, ground := Go.Ground.guard }], guard := some (18, true) }) (v := undef) rfl (by kernel_rfl) (by kernel_rfl) (by kernel_rfl) (fun _ _ _ h => h) (Or.inr ⟨by rfl, rfl⟩) (by assumption) ?_
    try simp only [Act.put, List.setIfInBounds_toArray, List.set_cons_zero, List.set_cons_succ]
    refine wpAnyH_take (i := 22) (oi := { dst := some 75, op := Go.Op.unOp Go.UnOp.not 4 (Go.Operand.tmp 74), type := 4, pos := "law.go:123", after := #[{ on := 21, ground := Go.Ground.data }, { on := 18, ground := Go.Ground.guard }], guard := some (18, true) }) (v := undef) rfl (by kernel_rfl) (by kernel_rfl) (by kernel_rfl) (fun _ _ _ h => h) (Or.inr ⟨by rfl, rfl⟩) (by assumption) ?_
    try simp only [Act.put, List.setIfInBounds_toArray, List.set_cons_zero, List.set_cons_succ]
    refine wpAnyH_take (i := 23) (oi := { dst := some 76, op := Go.Op.pick (Go.Operand.tmp 71) (Go.Operand.tmp 75) (Go.Operand.const (Go.Value.bool false)), type := 4, pos := "law.go:123", after := #[{ on := 18, ground := Go.Ground.data }, { on := 22, ground := Go.Ground.data }, { on := 13, ground := Go.Ground.guard }], guard := some (13, true) }) (v := ?_) rfl (by kernel_rfl) (by kernel_rfl) (by kernel_rfl) (fun _ _ _ h => h) (Or.inl ⟨by rfl, ?_⟩) (by assumption) ?_
    rotate_left
    · intro w hSw; (try dsimp only at hSw); go_simp; (try with_reducible rfl)
    try simp only [Act.put, List.setIfInBounds_toArray, List.set_cons_zero, List.set_cons_succ]
    refine wpAnyH_take (i := 24) (oi := { dst := some 77, op := Go.Op.move (Go.Operand.tmp 76), type := 4, pos := "law.go:123", after := #[{ on := 23, ground := Go.Ground.data }, { on := 21, ground := Go.Ground.chain }, { on := 13, ground := Go.Ground.guard }], guard := some (13, true) }) (v := ?_) rfl (by kernel_rfl) (by kernel_rfl) (by kernel_rfl) (fun _ _ _ h => h) (Or.inl ⟨by rfl, ?_⟩) (by assumption) ?_
    rotate_left
    · intro w hSw; (try dsimp only at hSw); go_simp; (try with_reducible rfl)
    try simp only [Act.put, List.setIfInBounds_toArray, List.set_cons_zero, List.set_cons_succ]
    refine wpAnyH_take (i := 25) (oi := { dst := some 78, op := Go.Op.load 41 (Go.Operand.tmp 14), type := 41, pos := "law.go:123", after := #[{ on := 24, ground := Go.Ground.guard }], guard := some (24, false) }) (v := ?_) rfl (by kernel_rfl) (by kernel_rfl) (by kernel_rfl) (fun _ _ _ h => h) (Or.inl ⟨by rfl, ?_⟩) (by assumption) ?_
    rotate_left
    · intro w hSw; (try dsimp only at hSw); go_simp; (try with_reducible rfl)
    try simp only [Act.put, List.setIfInBounds_toArray, List.set_cons_zero, List.set_cons_succ]
    refine wpAnyH_take (i := 26) (oi := { dst := some 79, op := Go.Op.load 23 (Go.Operand.tmp 5), type := 23, pos := "law.go:123", after := #[{ on := 24, ground := Go.Ground.guard }], guard := some (24, false) }) (v := ?_) rfl (by kernel_rfl) (by kernel_rfl) (by kernel_rfl) (fun _ _ _ h => h) (Or.inl ⟨by rfl, ?_⟩) (by assumption) ?_
    rotate_left
    · intro w hSw; (try dsimp only at hSw); go_simp; (try with_reducible rfl)
    try simp only [Act.put, List.setIfInBounds_toArray, List.set_cons_zero, List.set_cons_succ]
    refine wpAnyH_ready (rs := [27]) (by kernel_rfl) (by simp) ?_
    refine AllReadyH.cons (o := { dst := some 80, op := Go.Op.call { callee := Go.Callee.value (Go.Operand.func 33), args := #[Go.Operand.tmp 78, Go.Operand.tmp 79], argTypes := #[41, 23] }, type := 4, pos := "law.go:123", after := #[{ on := 25, ground := Go.Ground.data }, { on := 26, ground := Go.Ground.data }, { on := 24, ground := Go.Ground.chain }, { on := 24, ground := Go.Ground.guard }], guard := some (24, false) }) rfl (fun K hK => ?_) AllReadyH.nil
    go_simp
    (go_at_call 33; ((with_reducible refine (H3.out _).mono ?_); rintro e v4 ⟨rfl, gb4⟩))
    refine hK.out _ _ ?_ (fun hHeld27 => ?_)
    · (try dsimp only); (((first | (go_split_ands; skip) | skip); (repeat' apply And.intro) <;> (first | assumption | (with_reducible exact blk_drew (by assumption)) | (with_reducible exact blk_later (by simp) (by assumption) (by assumption)))))
    clear hK K hHeld16
    try simp only [Act.put, List.setIfInBounds_toArray, List.set_cons_zero, List.set_cons_succ]
    refine wpAnyH_take (i := 28) (oi := { dst := some 81, op := Go.Op.pick (Go.Operand.tmp 77) (Go.Operand.const (Go.Value.bool true)) (Go.Operand.tmp 80), type := 4, pos := "law.go:123", after := #[{ on := 24, ground := Go.Ground.data }, { on := 27, ground := Go.Ground.data }, { on := 13, ground := Go.Ground.guard }], guard := some (13, true) }) (v := ?_) rfl (by kernel_rfl) (by kernel_rfl) (by kernel_rfl) (fun _ _ _ h => h) (Or.inl ⟨by rfl, ?_⟩) (by assumption) ?_
    rotate_left
    · intro w hSw; (try dsimp only at hSw); go_simp; (try with_reducible rfl)
    try simp only [Act.put, List.setIfInBounds_toArray, List.set_cons_zero, List.set_cons_succ]
    refine wpAnyH_take (i := 29) (oi := { dst := some 82, op := Go.Op.pick (Go.Operand.tmp 66) (Go.Operand.tmp 81) (Go.Operand.const (Go.Value.bool false)), type := 4, pos := "law.go:123", after := #[{ on := 13, ground := Go.Ground.data }, { on := 28, ground := Go.Ground.data }], guard := none }) (v := ?_) rfl (by kernel_rfl) (by kernel_rfl) (by kernel_rfl) (fun _ _ _ h => h) (Or.inl ⟨by rfl, ?_⟩) (by assumption) ?_
    rotate_left
    · intro w hSw; (try dsimp only at hSw); go_simp; (try with_reducible rfl)
    try simp only [Act.put, List.setIfInBounds_toArray, List.set_cons_zero, List.set_cons_succ]
    refine wpAnyH_take (i := 30) (oi := { dst := some 6, op := Go.Op.assign (Go.Operand.tmp 82), type := 4, pos := "law.go:123", after := #[{ on := 29, ground := Go.Ground.data }, { on := 27, ground := Go.Ground.chain }, { on := 0, ground := Go.Ground.phase }, { on := 1, ground := Go.Ground.phase }, { on := 2, ground := Go.Ground.phase }, { on := 3, ground := Go.Ground.phase }, { on := 4, ground := Go.Ground.phase }, { on := 5, ground := Go.Ground.phase }, { on := 6, ground := Go.Ground.phase }, { on := 7, ground := Go.Ground.phase }, { on := 8, ground := Go.Ground.phase }, { on := 9, ground := Go.Ground.phase }, { on := 10, ground := Go.Ground.phase }, { on := 11, ground := Go.Ground.phase }, { on := 12, ground := Go.Ground.phase }, { on := 13, ground := Go.Ground.phase }, { on := 14, ground := Go.Ground.phase }, { on := 15, ground := Go.Ground.phase }, { on := 16, ground := Go.Ground.phase }, { on := 17, ground := Go.Ground.phase }, { on := 18, ground := Go.Ground.phase }, { on := 19, ground := Go.Ground.phase }, { on := 20, ground := Go.Ground.phase }, { on := 21, ground := Go.Ground.phase }, { on := 22, ground := Go.Ground.phase }, { on := 23, ground := Go.Ground.phase }, { on := 24, ground := Go.Ground.phase }, { on := 25, ground := Go.Ground.phase }, { on := 26, ground := Go.Ground.phase }, { on := 27, ground := Go.Ground.phase }, { on := 28, ground := Go.Ground.phase }, { on := 29, ground := Go.Ground.phase }], guard := none }) (v := ?_) rfl (by kernel_rfl) (by kernel_rfl) (by kernel_rfl) (fun _ _ _ h => h) (Or.inl ⟨by rfl, ?_⟩) (by assumption) ?_
    rotate_left
    · intro w hSw; (try dsimp only at hSw); go_simp; (try with_reducible rfl)
    try simp only [Act.put, List.setIfInBounds_toArray, List.set_cons_zero, List.set_cons_succ]
    refine wpAnyH_done (by kernel_rfl) ?_ _
    go_wp2_with fail
    go_returns
    exact ⟨by simp, by (repeat' (first | (with_reducible assumption) | (with_reducible exact Below.refl _ _) | (with_reducible refine bstep (by with_reducible assumption) ?_) | (with_reducible refine Below.alloc ?_ ?_ _) | (with_reducible refine Below.drew ?_) | (with_reducible refine below_drewN ?_ _) | (with_reducible refine Below.setCell ?_ ?_ _) | go_size))⟩
  · clear HH HU
    go_enter Try.func11, Try.ntmps11
    go_wp2_with (first
      | (go_at_call 20; ((with_reducible refine (alive02_any _).mono ?_); rintro e w1 ⟨rfl, hb1⟩; have P1 : ∀ o, w1.cell? ⟨w.heap.size, o, none⟩ = (#[.int .i64 x, .int .i64 y, .int .i64 z] : Array Value)[o]? := blk_later (by simp) hb1 (by (repeat (first | (with_reducible assumption) | (focus ((with_reducible refine new_at ?_ _ _); (repeat (first | (with_reducible rfl) | (with_reducible refine sz1 ?_))); done)) | (with_reducible refine blk_alloc (by simp) _ ?_) | (with_reducible refine blk_drew ?_)))); have s1 : w.heap.size < w1.heap.size := blk_lt (by simp) P1))
      | (go_at_call 29; ((with_reducible refine (BA.out _ ?_).mono ?_); (focus ((repeat' (first | (with_reducible exact Below.refl _ _) | (with_reducible refine bstep (by with_reducible assumption) ?_) | (with_reducible refine Below.alloc ?_ ?_ _) | (with_reducible refine Below.drew ?_) | (with_reducible refine below_drewN ?_ _) | (with_reducible refine Below.setCell ?_ ?_ _) | go_size)))); rintro e w2 ⟨rfl, hb2⟩; have P2 := blk_later (by simp) hb2 P1; have s2 : w.heap.size < w2.heap.size := blk_lt (by simp) P2; clear P1))
      | (go_at_call 29; ((with_reducible refine (BB.out _ ?_).mono ?_); (focus ((repeat' (first | (with_reducible exact Below.refl _ _) | (with_reducible refine bstep (by with_reducible assumption) ?_) | (with_reducible refine Below.alloc ?_ ?_ _) | (with_reducible refine Below.drew ?_) | (with_reducible refine below_drewN ?_ _) | (with_reducible refine Below.setCell ?_ ?_ _) | go_size)))); rintro e w3 ⟨rfl, hb3⟩; have P3 := blk_later (by simp) hb3 (blk_alloc (by simp) _ P2); have X3 := blk_later (by simp) hb3 (new_at rfl _ _); have s3 : w.heap.size < w3.heap.size := blk_lt (by simp) P3; have s3x : w2.heap.size < w3.heap.size := blk_lt (by simp) X3; clear P2))
      | (go_at_call 28; ((with_reducible refine (CA.out _ ?_).mono ?_); (focus ((repeat' (first | (with_reducible exact Below.refl _ _) | (with_reducible refine bstep (by with_reducible assumption) ?_) | (with_reducible refine Below.alloc ?_ ?_ _) | (with_reducible refine Below.drew ?_) | (with_reducible refine below_drewN ?_ _) | (with_reducible refine Below.setCell ?_ ?_ _) | go_size)))); rintro e w4 ⟨g, cap, rfl, hg, hPt, hb4, own4, hg4⟩; have P4 := blk_later (by simp) hb4 (blk_alloc (by simp) _ P3); have X4 := blk_later (by simp) hb4 (blk_alloc (by simp) _ X3); have Y4 := blk_later (by simp) hb4 (new_at rfl _ _); have s4 : w3.heap.size < w4.heap.size := blk_lt (by simp) Y4; have HB4 : Below w.heap.size w w4 := (by (repeat' (first | (with_reducible exact Below.refl _ _) | (with_reducible refine bstep (by with_reducible assumption) ?_) | (with_reducible refine Below.alloc ?_ ?_ _) | (with_reducible refine Below.drew ?_) | (with_reducible refine below_drewN ?_ _) | (with_reducible refine Below.setCell ?_ ?_ _) | go_size))); clear P3 X3))
      | (at_builtin; refine wpList_append_lies _ rfl _ _ 39 rfl _ 23 i0 (V3 0 0 0) 3 24 Try.underlying39 ji jz0 jz1 jz2 rfl (by decide) _ _ _ rfl own4 ⟨bb, ob, none⟩ nb cb (nw nb Y) rfl (by simp [nw]) (fun j u hu => ?_) (fun u hu => ?_) k1 (by unfold maxLen; omega) (by omega) hb4.size _ rfl (fun h cap2 w5 h1 h2 h3 h4 => ?_))
      | (go_at_call 29; ((with_reducible refine (BC.out _ _ ?_).mono ?_); (focus (exact pts_of_owns h1 (by omega) h4 (fun o ho => nw_cat na nb X Y o ho))); rintro e w6 ⟨rfl, hb6⟩; have HB5 := Below.grown (Below.refl _ _) h2 hb4.size (fun k hk => (by have hk' : some g = some k := hk; have := Option.some.inj hk'; omega)); have P6 := blk_later (by simp) hb6 (blk_below HB5 (by rw [World.size_alloc]; omega) P4); have X6 := blk_later (by simp) hb6 (blk_below HB5 (by rw [World.size_alloc]; omega) X4); have Y6 := blk_later (by simp) hb6 (blk_below HB5 (by rw [World.size_alloc]; omega) Y4); have HW5 : Below w.heap.size w w5 := HB4.trans (HB5.mono (by rw [World.size_alloc]; omega)); have s6 : w3.heap.size < w6.heap.size := blk_lt (by simp) Y6; have s6x : w2.heap.size < w6.heap.size := (by omega); have s6p : w.heap.size < w6.heap.size := (by omega); clear P4 X4 Y4))
      | (go_at_call 31; ((with_reducible refine (J1.out _).mono ?_); rintro e w7 ⟨rfl, hb7⟩; have P7 := blk_later (by simp) hb7 (blk_alloc (by simp) _ P6); have X7 := blk_later (by simp) hb7 (blk_alloc (by simp) _ X6); have Y7 := blk_later (by simp) hb7 (blk_alloc (by simp) _ Y6); have Z7 := blk_later (by simp) hb7 (new_at rfl _ _); have s7 : w6.heap.size < w7.heap.size := blk_lt (by simp) Z7; clear P6 X6 Y6)))
    case refine_1 =>
      rw [nw, List.getElem?_map, Option.map_eq_some_iff] at hu
      obtain ⟨o, ho, rfl⟩ := hu
      rw [List.getElem?_eq_some_iff] at ho
      obtain ⟨hlo, rfl⟩ := ho
      simp only [List.getElem_range] at *
      first | rw [Go.WideShapes.add_plain] | skip
      rw [HB4.cell (p := ⟨bb, ob + j, none⟩) k4]
      exact K5.out j (by simpa using hlo)
    case refine_2 =>
      rw [nw, List.mem_map] at hu
      obtain ⟨o, _, rfl⟩ := hu
      rfl
    have P8 := blk_alloc (by simp) (.cells #[.int .i64 c0, .int .i64 c1, .int .i64 c2, .int .i64 c3, .int .i64 c4, .int .i64 c5] 41) P7
    have X8 := blk_alloc (by simp) (.cells #[.int .i64 c0, .int .i64 c1, .int .i64 c2, .int .i64 c3, .int .i64 c4, .int .i64 c5] 41) X7
    have Y8 := blk_alloc (by simp) (.cells #[.int .i64 c0, .int .i64 c1, .int .i64 c2, .int .i64 c3, .int .i64 c4, .int .i64 c5] 41) Y7
    have Z8 := blk_alloc (by simp) (.cells #[.int .i64 c0, .int .i64 c1, .int .i64 c2, .int .i64 c3, .int .i64 c4, .int .i64 c5] 41) Z7
    have W8 : ∀ o, (w7.alloc (.cells #[.int .i64 c0, .int .i64 c1, .int .i64 c2, .int .i64 c3, .int .i64 c4, .int .i64 c5] 41)).cell? ⟨w7.heap.size, o, none⟩ = (#[.int .i64 c0, .int .i64 c1, .int .i64 c2, .int .i64 c3, .int .i64 c4, .int .i64 c5] : Array Value)[o]? := new_at rfl _ _
    refine wp_region_held_drew (S := (fun w' => (∀ o, w'.cell? ⟨w.heap.size, o, none⟩ = (#[.int .i64 x, .int .i64 y, .int .i64 z] : Array Value)[o]?) ∧ (∀ o, w'.cell? ⟨w2.heap.size, o, none⟩ = (#[.int .i64 a0, .int .i64 a1, .int .i64 a2, .int .i64 a3, .int .i64 a4, .int .i64 a5] : Array Value)[o]?) ∧ (∀ o, w'.cell? ⟨w3.heap.size, o, none⟩ = (#[.int .i64 b0, .int .i64 b1, .int .i64 b2, .int .i64 b3, .int .i64 b4, .int .i64 b5] : Array Value)[o]?) ∧ (∀ o, w'.cell? ⟨w6.heap.size, o, none⟩ = (#[.int .i64 c0, .int .i64 c1, .int .i64 c2, .int .i64 c3, .int .i64 c4, .int .i64 c5] : Array Value)[o]?) ∧ (∀ o, w'.cell? ⟨w7.heap.size, o, none⟩ = (#[.int .i64 c0, .int .i64 c1, .int .i64 c2, .int .i64 c3, .int .i64 c4, .int .i64 c5] : Array Value)[o]?))) (by kernel_rfl) ?_ (fun hHeld => ?_)
    · (try dsimp only); (((first | (go_split_ands; skip) | skip); (repeat' apply And.intro) <;> (first | assumption | (with_reducible exact blk_drew (by assumption)) | (with_reducible exact blk_later (by simp) (by assumption) (by assumption)))))
    refine wpAnyH_take (i := 0) (oi := { dst := some 53, op := Go.Op.move (Go.Operand.tmp 13), type := 4, pos := "law.go:123", after := #[], guard := none }) (v := ?_) rfl (by kernel_rfl) (by kernel_rfl) (by kernel_rfl) (fun _ _ _ h => h) (Or.inl ⟨by rfl, ?_⟩) (by assumption) ?_
    rotate_left
    · intro w hSw; (try dsimp only at hSw); go_simp; (try with_reducible rfl)
    try simp only [Act.put, List.setIfInBounds_toArray, List.set_cons_zero, List.set_cons_succ]
    refine wpAnyH_take (i := 1) (oi := { dst := some 54, op := Go.Op.move (Go.Operand.tmp 53), type := 4, pos := "law.go:123", after := #[{ on := 0, ground := Go.Ground.data }], guard := none }) (v := ?_) rfl (by kernel_rfl) (by kernel_rfl) (by kernel_rfl) (fun _ _ _ h => h) (Or.inl ⟨by rfl, ?_⟩) (by assumption) ?_
    rotate_left
    · intro w hSw; (try dsimp only at hSw); go_simp; (try with_reducible rfl)
    try simp only [Act.put, List.setIfInBounds_toArray, List.set_cons_zero, List.set_cons_succ]
    refine wpAnyH_take (i := 2) (oi := { dst := some 55, op := Go.Op.load 41 (Go.Operand.tmp 12), type := 41, pos := "law.go:123", after := #[{ on := 1, ground := Go.Ground.guard }], guard := some (1, true) }) (v := ?_) rfl (by kernel_rfl) (by kernel_rfl) (by kernel_rfl) (fun _ _ _ h => h) (Or.inl ⟨by rfl, ?_⟩) (by assumption) ?_
    rotate_left
    · intro w hSw; (try dsimp only at hSw); go_simp; (try with_reducible rfl)
    try simp only [Act.put, List.setIfInBounds_toArray, List.set_cons_zero, List.set_cons_succ]
    refine wpAnyH_take (i := 3) (oi := { dst := some 56, op := Go.Op.load 41 (Go.Operand.tmp 14), type := 41, pos := "law.go:123", after := #[{ on := 1, ground := Go.Ground.guard }], guard := some (1, true) }) (v := ?_) rfl (by kernel_rfl) (by kernel_rfl) (by kernel_rfl) (fun _ _ _ h => h) (Or.inl ⟨by rfl, ?_⟩) (by assumption) ?_
    rotate_left
    · intro w hSw; (try dsimp only at hSw); go_simp; (try with_reducible rfl)
    try simp only [Act.put, List.setIfInBounds_toArray, List.set_cons_zero, List.set_cons_succ]
    refine wpAnyH_take (i := 4) (oi := { dst := some 57, op := Go.Op.binOp Go.BinOp.eql 41 (Go.Operand.tmp 55) (Go.Operand.tmp 56) 41, type := 4, pos := "law.go:123", after := #[{ on := 2, ground := Go.Ground.data }, { on := 3, ground := Go.Ground.data }, { on := 1, ground := Go.Ground.guard }], guard := some (1, true) }) (v := ?_) rfl (by kernel_rfl) (by kernel_rfl) (by kernel_rfl) (fun _ _ _ h => h) (Or.inl ⟨by rfl, ?_⟩) (by assumption) ?_
    rotate_left
    · intro w hSw; (try dsimp only at hSw); go_simp; (try with_reducible rfl)
    try simp only [Act.put, List.setIfInBounds_toArray, List.set_cons_zero, List.set_cons_succ]
    refine wpAnyH_take (i := 5) (oi := { dst := some 58, op := Go.Op.pick (Go.Operand.tmp 54) (Go.Operand.tmp 57) (Go.Operand.const (Go.Value.bool false)), type := 4, pos := "law.go:123", after := #[{ on := 1, ground := Go.Ground.data }, { on := 4, ground := Go.Ground.data }], guard := none }) (v := ?_) rfl (by kernel_rfl) (by kernel_rfl) (by kernel_rfl) (fun _ _ _ h => h) (Or.inl ⟨by rfl, ?_⟩) (by assumption) ?_
    rotate_left
    · intro w hSw; (try dsimp only at hSw); go_simp; (try with_reducible rfl)
    try simp only [Act.put, List.setIfInBounds_toArray, List.set_cons_zero, List.set_cons_succ]
    refine wpAnyH_take (i := 6) (oi := { dst := some 59, op := Go.Op.move (Go.Operand.tmp 58), type := 4, pos := "law.go:123", after := #[{ on := 5, ground := Go.Ground.data }, { on := 1, ground := Go.Ground.chain }], guard := none }) (v := ?_) rfl (by kernel_rfl) (by kernel_rfl) (by kernel_rfl) (fun _ _ _ h => h) (Or.inl ⟨by rfl, ?_⟩) (by assumption) ?_
    rotate_left
    · intro w hSw; (try dsimp only at hSw); go_simp; (try with_reducible rfl)
    try simp only [Act.put, List.setIfInBounds_toArray, List.set_cons_zero, List.set_cons_succ]
    refine wpAnyH_take (i := 7) (oi := { dst := some 60, op := Go.Op.load 41 (Go.Operand.tmp 14), type := 41, pos := "law.go:123", after := #[{ on := 6, ground := Go.Ground.guard }], guard := some (6, true) }) (v := ?_) rfl (by kernel_rfl) (by kernel_rfl) (by kernel_rfl) (fun _ _ _ h => h) (Or.inl ⟨by rfl, ?_⟩) (by assumption) ?_
    rotate_left
    · intro w hSw; (try dsimp only at hSw); go_simp; (try with_reducible rfl)
    try simp only [Act.put, List.setIfInBounds_toArray, List.set_cons_zero, List.set_cons_succ]
    refine wpAnyH_take (i := 8) (oi := { dst := some 61, op := Go.Op.load 41 (Go.Operand.tmp 9), type := 41, pos := "law.go:123", after := #[{ on := 6, ground := Go.Ground.guard }], guard := some (6, true) }) (v := ?_) rfl (by kernel_rfl) (by kernel_rfl) (by kernel_rfl) (fun _ _ _ h => h) (Or.inl ⟨by rfl, ?_⟩) (by assumption) ?_
    rotate_left
    · intro w hSw; (try dsimp only at hSw); go_simp; (try with_reducible rfl)
    try simp only [Act.put, List.setIfInBounds_toArray, List.set_cons_zero, List.set_cons_succ]
    refine wpAnyH_take (i := 9) (oi := { dst := some 62, op := Go.Op.load 41 (Go.Operand.tmp 7), type := 41, pos := "law.go:123", after := #[{ on := 6, ground := Go.Ground.guard }], guard := some (6, true) }) (v := ?_) rfl (by kernel_rfl) (by kernel_rfl) (by kernel_rfl) (fun _ _ _ h => h) (Or.inl ⟨by rfl, ?_⟩) (by assumption) ?_
    rotate_left
    · intro w hSw; (try dsimp only at hSw); go_simp; (try with_reducible rfl)
    try simp only [Act.put, List.setIfInBounds_toArray, List.set_cons_zero, List.set_cons_succ]
    refine wpAnyH_ready (rs := [10]) (by kernel_rfl) (by simp) ?_
    refine AllReadyH.cons (o := { dst := some 63, op := Go.Op.call { callee := Go.Callee.value (Go.Operand.func 31), args := #[Go.Operand.tmp 61, Go.Operand.tmp 62], argTypes := #[41, 41] }, type := 41, pos := "law.go:123", after := #[{ on := 8, ground := Go.Ground.data }, { on := 9, ground := Go.Ground.data }, { on := 6, ground := Go.Ground.chain }, { on := 6, ground := Go.Ground.guard }], guard := some (6, true) }) rfl (fun K hK => ?_) AllReadyH.nil
    go_simp
    (go_at_call 31; ((with_reducible refine (J2.out _).mono ?_); rintro e v1 ⟨rfl, gb1⟩))
    refine hK.out _ _ ?_ (fun hHeld10 => ?_)
    · (try dsimp only); (((first | (go_split_ands; skip) | skip); (repeat' apply And.intro) <;> (first | assumption | (with_reducible exact blk_drew (by assumption)) | (with_reducible exact blk_later (by simp) (by assumption) (by assumption)))))
    clear hK K hHeld
    try simp only [Act.put, List.setIfInBounds_toArray, List.set_cons_zero, List.set_cons_succ]
    refine wpAnyH_take (i := 11) (oi := { dst := some 64, op := Go.Op.binOp Go.BinOp.eql 41 (Go.Operand.tmp 60) (Go.Operand.tmp 63) 41, type := 4, pos := "law.go:123", after := #[{ on := 7, ground := Go.Ground.data }, { on := 10, ground := Go.Ground.data }, { on := 6, ground := Go.Ground.guard }], guard := some (6, true) }) (v := ?_) rfl (by kernel_rfl) (by kernel_rfl) (by kernel_rfl) (fun _ _ _ h => h) (Or.inl ⟨by rfl, ?_⟩) (by assumption) ?_
    rotate_left
    · intro w hSw; (try dsimp only at hSw); go_simp; (try with_reducible rfl)
    try simp only [Act.put, List.setIfInBounds_toArray, List.set_cons_zero, List.set_cons_succ]
    refine wpAnyH_take (i := 12) (oi := { dst := some 65, op := Go.Op.pick (Go.Operand.tmp 59) (Go.Operand.tmp 64) (Go.Operand.const (Go.Value.bool false)), type := 4, pos := "law.go:123", after := #[{ on := 6, ground := Go.Ground.data }, { on := 11, ground := Go.Ground.data }], guard := none }) (v := ?_) rfl (by kernel_rfl) (by kernel_rfl) (by kernel_rfl) (fun _ _ _ h => h) (Or.inl ⟨by rfl, ?_⟩) (by assumption) ?_
    rotate_left
    · intro w hSw; (try dsimp only at hSw); go_simp; (try with_reducible rfl)
    try simp only [Act.put, List.setIfInBounds_toArray, List.set_cons_zero, List.set_cons_succ]
    refine wpAnyH_take (i := 13) (oi := { dst := some 66, op := Go.Op.move (Go.Operand.tmp 65), type := 4, pos := "law.go:123", after := #[{ on := 12, ground := Go.Ground.data }, { on := 10, ground := Go.Ground.chain }], guard := none }) (v := ?_) rfl (by kernel_rfl) (by kernel_rfl) (by kernel_rfl) (fun _ _ _ h => h) (Or.inl ⟨by rfl, ?_⟩) (by assumption) ?_
    rotate_left
    · intro w hSw; (try dsimp only at hSw); go_simp; (try with_reducible rfl)
    try simp only [Act.put, List.setIfInBounds_toArray, List.set_cons_zero, List.set_cons_succ]
    refine wpAnyH_take (i := 14) (oi := { dst := some 67, op := Go.Op.load 41 (Go.Operand.tmp 7), type := 41, pos := "law.go:123", after := #[{ on := 13, ground := Go.Ground.guard }], guard := some (13, true) }) (v := ?_) rfl (by kernel_rfl) (by kernel_rfl) (by kernel_rfl) (fun _ _ _ h => h) (Or.inl ⟨by rfl, ?_⟩) (by assumption) ?_
    rotate_left
    · intro w hSw; (try dsimp only at hSw); go_simp; (try with_reducible rfl)
    try simp only [Act.put, List.setIfInBounds_toArray, List.set_cons_zero, List.set_cons_succ]
    refine wpAnyH_take (i := 15) (oi := { dst := some 68, op := Go.Op.load 23 (Go.Operand.tmp 5), type := 23, pos := "law.go:123", after := #[{ on := 13, ground := Go.Ground.guard }], guard := some (13, true) }) (v := ?_) rfl (by kernel_rfl) (by kernel_rfl) (by kernel_rfl) (fun _ _ _ h => h) (Or.inl ⟨by rfl, ?_⟩) (by assumption) ?_
    rotate_left
    · intro w hSw; (try dsimp only at hSw); go_simp; (try with_reducible rfl)
    try simp only [Act.put, List.setIfInBounds_toArray, List.set_cons_zero, List.set_cons_succ]
    refine wpAnyH_ready (rs := [16]) (by kernel_rfl) (by simp) ?_
    refine AllReadyH.cons (o := { dst := some 69, op := Go.Op.call { callee := Go.Callee.value (Go.Operand.func 33), args := #[Go.Operand.tmp 67, Go.Operand.tmp 68], argTypes := #[41, 23] }, type := 4, pos := "law.go:123", after := #[{ on := 14, ground := Go.Ground.data }, { on := 15, ground := Go.Ground.data }, { on := 13, ground := Go.Ground.chain }, { on := 13, ground := Go.Ground.guard }], guard := some (13, true) }) rfl (fun K hK => ?_) AllReadyH.nil
    go_simp
    (go_at_call 33; ((with_reducible refine (H1.out _).mono ?_); rintro e v2 ⟨rfl, gb2⟩))
    refine hK.out _ _ ?_ (fun hHeld16 => ?_)
    · (try dsimp only); (((first | (go_split_ands; skip) | skip); (repeat' apply And.intro) <;> (first | assumption | (with_reducible exact blk_drew (by assumption)) | (with_reducible exact blk_later (by simp) (by assumption) (by assumption)))))
    clear hK K hHeld10
    try simp only [Act.put, List.setIfInBounds_toArray, List.set_cons_zero, List.set_cons_succ]
    refine wpAnyH_take (i := 17) (oi := { dst := some 70, op := Go.Op.unOp Go.UnOp.not 4 (Go.Operand.tmp 69), type := 4, pos := "law.go:123", after := #[{ on := 16, ground := Go.Ground.data }, { on := 13, ground := Go.Ground.guard }], guard := some (13, true) }) (v := ?_) rfl (by kernel_rfl) (by kernel_rfl) (by kernel_rfl) (fun _ _ _ h => h) (Or.inl ⟨by rfl, ?_⟩) (by assumption) ?_
    rotate_left
    · intro w hSw; (try dsimp only at hSw); go_simp; (try with_reducible rfl)
    try simp only [Act.put, List.setIfInBounds_toArray, List.set_cons_zero, List.set_cons_succ]
    refine wpAnyH_take (i := 18) (oi := { dst := some 71, op := Go.Op.move (Go.Operand.tmp 70), type := 4, pos := "law.go:123", after := #[{ on := 17, ground := Go.Ground.data }, { on := 16, ground := Go.Ground.chain }, { on := 13, ground := Go.Ground.guard }], guard := some (13, true) }) (v := ?_) rfl (by kernel_rfl) (by kernel_rfl) (by kernel_rfl) (fun _ _ _ h => h) (Or.inl ⟨by rfl, ?_⟩) (by assumption) ?_
    rotate_left
    · intro w hSw; (try dsimp only at hSw); go_simp; (try with_reducible rfl)
    try simp only [Act.put, List.setIfInBounds_toArray, List.set_cons_zero, List.set_cons_succ]
    refine wpAnyH_take (i := 19) (oi := { dst := some 72, op := Go.Op.load 41 (Go.Operand.tmp 9), type := 41, pos := "law.go:123", after := #[{ on := 18, ground := Go.Ground.guard }], guard := some (18, true) }) (v := ?_) rfl (by kernel_rfl) (by kernel_rfl) (by kernel_rfl) (fun _ _ _ h => h) (Or.inl ⟨by rfl, ?_⟩) (by assumption) ?_
    rotate_left
    · intro w hSw; (try dsimp only at hSw); go_simp; (try with_reducible rfl)
    try simp only [Act.put, List.setIfInBounds_toArray, List.set_cons_zero, List.set_cons_succ]
    refine wpAnyH_take (i := 20) (oi := { dst := some 73, op := Go.Op.load 23 (Go.Operand.tmp 5), type := 23, pos := "law.go:123", after := #[{ on := 18, ground := Go.Ground.guard }], guard := some (18, true) }) (v := ?_) rfl (by kernel_rfl) (by kernel_rfl) (by kernel_rfl) (fun _ _ _ h => h) (Or.inl ⟨by rfl, ?_⟩) (by assumption) ?_
    rotate_left
    · intro w hSw; (try dsimp only at hSw); go_simp; (try with_reducible rfl)
    try simp only [Act.put, List.setIfInBounds_toArray, List.set_cons_zero, List.set_cons_succ]
    refine wpAnyH_ready (rs := [21]) (by kernel_rfl) (by simp) ?_
    refine AllReadyH.cons (o := { dst := some 74, op := Go.Op.call { callee := Go.Callee.value (Go.Operand.func 33), args := #[Go.Operand.tmp 72, Go.Operand.tmp 73], argTypes := #[41, 23] }, type := 4, pos := "law.go:123", after := #[{ on := 19, ground := Go.Ground.data }, { on := 20, ground := Go.Ground.data }, { on := 18, ground := Go.Ground.chain }, { on := 18, ground := Go.Ground.guard }], guard := some (18, true) }) rfl (fun K hK => ?_) AllReadyH.nil
    go_simp
    (go_at_call 33; ((with_reducible refine (H2.out _).mono ?_); rintro e v3 ⟨rfl, gb3⟩))
    refine hK.out _ _ ?_ (fun hHeld21 => ?_)
    · (try dsimp only); (((first | (go_split_ands; skip) | skip); (repeat' apply And.intro) <;> (first | assumption | (with_reducible exact blk_drew (by assumption)) | (with_reducible exact blk_later (by simp) (by assumption) (by assumption)))))
    clear hK K hHeld16
    try simp only [Act.put, List.setIfInBounds_toArray, List.set_cons_zero, List.set_cons_succ]
    refine wpAnyH_take (i := 22) (oi := { dst := some 75, op := Go.Op.unOp Go.UnOp.not 4 (Go.Operand.tmp 74), type := 4, pos := "law.go:123", after := #[{ on := 21, ground := Go.Ground.data }, { on := 18, ground := Go.Ground.guard }], guard := some (18, true) }) (v := ?_) rfl (by kernel_rfl) (by kernel_rfl) (by kernel_rfl) (fun _ _ _ h => h) (Or.inl ⟨by rfl, ?_⟩) (by assumption) ?_
    rotate_left
    · intro w hSw; (try dsimp only at hSw); go_simp; (try with_reducible rfl)
    try simp only [Act.put, List.setIfInBounds_toArray, List.set_cons_zero, List.set_cons_succ]
    refine wpAnyH_take (i := 23) (oi := { dst := some 76, op := Go.Op.pick (Go.Operand.tmp 71) (Go.Operand.tmp 75) (Go.Operand.const (Go.Value.bool false)), type := 4, pos := "law.go:123", after := #[{ on := 18, ground := Go.Ground.data }, { on := 22, ground := Go.Ground.data }, { on := 13, ground := Go.Ground.guard }], guard := some (13, true) }) (v := ?_) rfl (by kernel_rfl) (by kernel_rfl) (by kernel_rfl) (fun _ _ _ h => h) (Or.inl ⟨by rfl, ?_⟩) (by assumption) ?_
    rotate_left
    · intro w hSw; (try dsimp only at hSw); go_simp; (try with_reducible rfl)
    try simp only [Act.put, List.setIfInBounds_toArray, List.set_cons_zero, List.set_cons_succ]
    refine wpAnyH_take (i := 24) (oi := { dst := some 77, op := Go.Op.move (Go.Operand.tmp 76), type := 4, pos := "law.go:123", after := #[{ on := 23, ground := Go.Ground.data }, { on := 21, ground := Go.Ground.chain }, { on := 13, ground := Go.Ground.guard }], guard := some (13, true) }) (v := ?_) rfl (by kernel_rfl) (by kernel_rfl) (by kernel_rfl) (fun _ _ _ h => h) (Or.inl ⟨by rfl, ?_⟩) (by assumption) ?_
    rotate_left
    · intro w hSw; (try dsimp only at hSw); go_simp; (try with_reducible rfl)
    try simp only [Act.put, List.setIfInBounds_toArray, List.set_cons_zero, List.set_cons_succ]
    refine wpAnyH_take (i := 25) (oi := { dst := some 78, op := Go.Op.load 41 (Go.Operand.tmp 14), type := 41, pos := "law.go:123", after := #[{ on := 24, ground := Go.Ground.guard }], guard := some (24, false) }) (v := undef) rfl (by kernel_rfl) (by kernel_rfl) (by kernel_rfl) (fun _ _ _ h => h) (Or.inr ⟨by rfl, rfl⟩) (by assumption) ?_
    try simp only [Act.put, List.setIfInBounds_toArray, List.set_cons_zero, List.set_cons_succ]
    refine wpAnyH_take (i := 26) (oi := { dst := some 79, op := Go.Op.load 23 (Go.Operand.tmp 5), type := 23, pos := "law.go:123", after := #[{ on := 24, ground := Go.Ground.guard }], guard := some (24, false) }) (v := undef) rfl (by kernel_rfl) (by kernel_rfl) (by kernel_rfl) (fun _ _ _ h => h) (Or.inr ⟨by rfl, rfl⟩) (by assumption) ?_
    try simp only [Act.put, List.setIfInBounds_toArray, List.set_cons_zero, List.set_cons_succ]
    refine wpAnyH_take (i := 27) (oi := { dst := some 80, op := Go.Op.call { callee := Go.Callee.value (Go.Operand.func 33), args := #[Go.Operand.tmp 78, Go.Operand.tmp 79], argTypes := #[41, 23] }, type := 4, pos := "law.go:123", after := #[{ on := 25, ground := Go.Ground.data }, { on := 26, ground := Go.Ground.data }, { on := 24, ground := Go.Ground.chain }, { on := 24, ground := Go.Ground.guard }], guard := some (24, false) }) (v := undef) rfl (by kernel_rfl) (by kernel_rfl) (by kernel_rfl) (fun _ _ _ h => h) (Or.inr ⟨by rfl, rfl⟩) (by assumption) ?_
    try simp only [Act.put, List.setIfInBounds_toArray, List.set_cons_zero, List.set_cons_succ]
    refine wpAnyH_take (i := 28) (oi := { dst := some 81, op := Go.Op.pick (Go.Operand.tmp 77) (Go.Operand.const (Go.Value.bool true)) (Go.Operand.tmp 80), type := 4, pos := "law.go:123", after := #[{ on := 24, ground := Go.Ground.data }, { on := 27, ground := Go.Ground.data }, { on := 13, ground := Go.Ground.guard }], guard := some (13, true) }) (v := ?_) rfl (by kernel_rfl) (by kernel_rfl) (by kernel_rfl) (fun _ _ _ h => h) (Or.inl ⟨by rfl, ?_⟩) (by assumption) ?_
    rotate_left
    · intro w hSw; (try dsimp only at hSw); go_simp; (try with_reducible rfl)
    try simp only [Act.put, List.setIfInBounds_toArray, List.set_cons_zero, List.set_cons_succ]
    refine wpAnyH_take (i := 29) (oi := { dst := some 82, op := Go.Op.pick (Go.Operand.tmp 66) (Go.Operand.tmp 81) (Go.Operand.const (Go.Value.bool false)), type := 4, pos := "law.go:123", after := #[{ on := 13, ground := Go.Ground.data }, { on := 28, ground := Go.Ground.data }], guard := none }) (v := ?_) rfl (by kernel_rfl) (by kernel_rfl) (by kernel_rfl) (fun _ _ _ h => h) (Or.inl ⟨by rfl, ?_⟩) (by assumption) ?_
    rotate_left
    · intro w hSw; (try dsimp only at hSw); go_simp; (try with_reducible rfl)
    try simp only [Act.put, List.setIfInBounds_toArray, List.set_cons_zero, List.set_cons_succ]
    refine wpAnyH_take (i := 30) (oi := { dst := some 6, op := Go.Op.assign (Go.Operand.tmp 82), type := 4, pos := "law.go:123", after := #[{ on := 29, ground := Go.Ground.data }, { on := 27, ground := Go.Ground.chain }, { on := 0, ground := Go.Ground.phase }, { on := 1, ground := Go.Ground.phase }, { on := 2, ground := Go.Ground.phase }, { on := 3, ground := Go.Ground.phase }, { on := 4, ground := Go.Ground.phase }, { on := 5, ground := Go.Ground.phase }, { on := 6, ground := Go.Ground.phase }, { on := 7, ground := Go.Ground.phase }, { on := 8, ground := Go.Ground.phase }, { on := 9, ground := Go.Ground.phase }, { on := 10, ground := Go.Ground.phase }, { on := 11, ground := Go.Ground.phase }, { on := 12, ground := Go.Ground.phase }, { on := 13, ground := Go.Ground.phase }, { on := 14, ground := Go.Ground.phase }, { on := 15, ground := Go.Ground.phase }, { on := 16, ground := Go.Ground.phase }, { on := 17, ground := Go.Ground.phase }, { on := 18, ground := Go.Ground.phase }, { on := 19, ground := Go.Ground.phase }, { on := 20, ground := Go.Ground.phase }, { on := 21, ground := Go.Ground.phase }, { on := 22, ground := Go.Ground.phase }, { on := 23, ground := Go.Ground.phase }, { on := 24, ground := Go.Ground.phase }, { on := 25, ground := Go.Ground.phase }, { on := 26, ground := Go.Ground.phase }, { on := 27, ground := Go.Ground.phase }, { on := 28, ground := Go.Ground.phase }, { on := 29, ground := Go.Ground.phase }], guard := none }) (v := ?_) rfl (by kernel_rfl) (by kernel_rfl) (by kernel_rfl) (fun _ _ _ h => h) (Or.inl ⟨by rfl, ?_⟩) (by assumption) ?_
    rotate_left
    · intro w hSw; (try dsimp only at hSw); go_simp; (try with_reducible rfl)
    try simp only [Act.put, List.setIfInBounds_toArray, List.set_cons_zero, List.set_cons_succ]
    refine wpAnyH_done (by kernel_rfl) ?_ _
    go_wp2_with fail
    go_returns
    exact ⟨by simp, by (repeat' (first | (with_reducible assumption) | (with_reducible exact Below.refl _ _) | (with_reducible refine bstep (by with_reducible assumption) ?_) | (with_reducible refine Below.alloc ?_ ?_ _) | (with_reducible refine Below.drew ?_) | (with_reducible refine below_drewN ?_ _) | (with_reducible refine Below.setCell ?_ ?_ _) | go_size))⟩
theorem vecJoin_walk (va : Value) (na : Nat) (X : Nat → Int) (_ : ∀ o, I64 (X o)) (vb : Value) (nb : Nat) (Y : Nat → Int) (_ : ∀ o, I64 (Y o)) (x y z : Int) (_ : I64 x) (_ : I64 y) (_ : I64 z) (w : World) (ha : Pts w va na X) (hb : Pts w vb nb Y) :
    Calls Try.prog 11 #[va, vb, V3 x y z] w fun e w' => e = .returned (.bool true) ∧ Below w.heap.size w w' := by
  by_cases h : 1000 < na ∨ 1000 < nb
  · exact vj_far va vb na nb X Y x y z h w ha hb
  by_cases h0 : na = 0 ∨ nb = 0
  · exact vj_empty va vb na nb X Y x y z (by omega) h0 w ha hb
  rcases ha with ⟨h1, _⟩ | ⟨ba, oa, ca, rfl, g1, g2, g3, g4, g5⟩
  · omega
  rcases hb with ⟨h1, _⟩ | ⟨bb, ob, cb, rfl, k1, k2, k3, k4, k5⟩
  · omega
  exact vj_both na nb ba bb oa ob ca cb X Y x y z (by omega) (by omega) w g1 g2 g3 g4 g5 k1 k2 k3 k4 k5
end Go.Proofs.Ytbmemnbfdbpdkaa
