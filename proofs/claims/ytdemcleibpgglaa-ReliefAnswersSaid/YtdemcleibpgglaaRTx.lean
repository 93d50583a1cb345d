/- What relievoref14.step, Right and Texel answer: contracts. -/
import Derived.Test.YtdemcleibpgglaaRBl
import Derived.Test.YtdemcleibpgglaaTexel
import Derived.Test.YtdemcleibpgglaaQuiet
import Derived.Test.YtdemcleibpgglaaBox
namespace Go.Proofs.Ytdemcleibpgglaa
open Go.RowKit
set_option maxRecDepth 100000
set_option linter.unusedSimpArgs false
set_option linter.unusedVariables false
theorem div16 (n : Int) : n / 16 = (if n < 0 ∧ ¬ n.tmod 16 = 0 then n.tdiv 16 - 1 else n.tdiv 16) := by
  have e := Int.mul_tdiv_add_tmod n 16
  rcases Int.lt_or_le n 0 with h | h
  · have l1 := Int.lt_tmod_of_pos n (show (0 : Int) < 16 by omega)
    have l2 : n.tmod 16 ≤ 0 := by
      have := Int.tmod_nonneg 16 (show 0 ≤ -n by omega)
      rw [Int.neg_tmod] at this
      omega
    split <;> omega
  · have l1 := Int.tmod_nonneg 16 h
    have l2 := Int.tmod_lt_of_pos n (show (0 : Int) < 16 by omega)
    rw [if_neg (by omega)]
    omega
theorem rstep_any (n m s : Int) (hs : stp n m = s) (hm : 1 ≤ m) (hm' : m ≤ 16) (hn : -2305843009213693952 ≤ n ∧ n ≤ 2305843009213693952) (w : World) :
    Calls Try.prog 57 #[.int .i64 n, .int .i64 m] w fun e w' => e = .returned (.int .i64 s) ∧ Below w.heap.size w w' := by
  subst hs
  unfold stp
  have hdiv := div16 n
  have ⟨q1, q2⟩ := tdiv_small n 16 2305843009213693952 (by omega) hn.1 hn.2
  have c0 : (m == 0) = false := beq_eq_false_iff_ne.mpr (by omega)
  have b := Int.emod_lt_of_pos (n / 16) (show 0 < m by omega)
  have b0 := Int.emod_nonneg (n / 16) (show m ≠ 0 by omega)
  obtain ⟨q, hq⟩ : ∃ q, n.tdiv 16 = q := ⟨_, rfl⟩
  obtain ⟨r, hr⟩ : ∃ q, n.tmod 16 = q := ⟨_, rfl⟩
  rw [hq] at q1 q2 hdiv
  rw [hr] at hdiv
  obtain ⟨Q, hQ⟩ : ∃ Q, n / 16 = Q := ⟨_, rfl⟩
  rw [hQ] at hdiv b b0 ⊢
  have g1 : IntKind.i64.wrap q = q := IntWalk.i64_in _ (by omega)
  by_cases h : n < 0
  · have d : decide (n < 0) = true := decide_eq_true h
    by_cases k : r = 0
    case neg =>
      have k' : (r == 0) = false := beq_eq_false_iff_ne.mpr k
      have hd : Q = q - 1 := by rw [hdiv]; split <;> omega
      have g2 : IntKind.i64.wrap (q - 1) = Q := by rw [hd]; exact IntWalk.i64_in _ (by omega)
      clear hdiv
      by_cases j : Q.tmod m < 0
      · have j' : decide (Q.tmod m < 0) = true := decide_eq_true j
        have e := tmod_neg (show 0 < m by omega) j
        have f : IntKind.i64.wrap (Q.tmod m + m) = Q % m := by rw [e]; exact IntWalk.i64_in _ (by omega)
        have hQr : IntKind.i64.wrap (Q.tmod m) = Q.tmod m := IntWalk.i64_in _ (by have := Int.tmod_lt_of_pos Q (show 0 < m by omega); have := Int.lt_tmod_of_pos Q (show 0 < m by omega); omega)
        clear b b0 e j h hd
        go_enter Try.func57, Try.ntmps57
        go_wp2_with fail
        go_returns
        exact ⟨by simp [*], by go_grown⟩
      · have j' : decide (Q.tmod m < 0) = false := decide_eq_false j
        have e := tmod_nonneg (q := Q) (show 0 < m by omega) (by omega)
        rw [← e]
        have hQr : IntKind.i64.wrap (Q.tmod m) = Q.tmod m := IntWalk.i64_in _ (by have := Int.tmod_lt_of_pos Q (show 0 < m by omega); have := Int.lt_tmod_of_pos Q (show 0 < m by omega); omega)
        clear b b0 e j h hd
        go_enter Try.func57, Try.ntmps57
        go_wp2_with fail
        go_returns
        exact ⟨by simp [*], by go_grown⟩
    case pos =>
      have k' : (r == 0) = true := beq_iff_eq.mpr k
      have hd : Q = q := by rw [hdiv]; split <;> omega
      subst hd
      clear hdiv
      by_cases j : Q.tmod m < 0
      · have j' : decide (Q.tmod m < 0) = true := decide_eq_true j
        have e := tmod_neg (show 0 < m by omega) j
        have f : IntKind.i64.wrap (Q.tmod m + m) = Q % m := by rw [e]; exact IntWalk.i64_in _ (by omega)
        have hQr : IntKind.i64.wrap (Q.tmod m) = Q.tmod m := IntWalk.i64_in _ (by have := Int.tmod_lt_of_pos Q (show 0 < m by omega); have := Int.lt_tmod_of_pos Q (show 0 < m by omega); omega)
        clear b b0 e j h
        go_enter Try.func57, Try.ntmps57
        go_wp2_with fail
        go_returns
        exact ⟨by simp [*], by go_grown⟩
      · have j' : decide (Q.tmod m < 0) = false := decide_eq_false j
        have e := tmod_nonneg (q := Q) (show 0 < m by omega) (by omega)
        rw [← e]
        have hQr : IntKind.i64.wrap (Q.tmod m) = Q.tmod m := IntWalk.i64_in _ (by have := Int.tmod_lt_of_pos Q (show 0 < m by omega); have := Int.lt_tmod_of_pos Q (show 0 < m by omega); omega)
        clear b b0 e j h
        go_enter Try.func57, Try.ntmps57
        go_wp2_with fail
        go_returns
        exact ⟨by simp [*], by go_grown⟩
  · have d : decide (n < 0) = false := decide_eq_false h
    have hd : Q = q := by rw [hdiv]; split <;> omega
    subst hd
    clear hdiv
    by_cases j : Q.tmod m < 0
    · have j' : decide (Q.tmod m < 0) = true := decide_eq_true j
      have e := tmod_neg (show 0 < m by omega) j
      have f : IntKind.i64.wrap (Q.tmod m + m) = Q % m := by rw [e]; exact IntWalk.i64_in _ (by omega)
      have hQr : IntKind.i64.wrap (Q.tmod m) = Q.tmod m := IntWalk.i64_in _ (by have := Int.tmod_lt_of_pos Q (show 0 < m by omega); have := Int.lt_tmod_of_pos Q (show 0 < m by omega); omega)
      clear b b0 e j h
      go_enter Try.func57, Try.ntmps57
      go_wp2_with fail
      go_returns
      exact ⟨by simp [*], by go_grown⟩
    · have j' : decide (Q.tmod m < 0) = false := decide_eq_false j
      have e := tmod_nonneg (q := Q) (show 0 < m by omega) (by omega)
      rw [← e]
      have hQr : IntKind.i64.wrap (Q.tmod m) = Q.tmod m := IntWalk.i64_in _ (by have := Int.tmod_lt_of_pos Q (show 0 < m by omega); have := Int.lt_tmod_of_pos Q (show 0 < m by omega); omega)
      clear b b0 e j h
      go_enter Try.func57, Try.ntmps57
      go_wp2_with fail
      go_returns
      exact ⟨by simp [*], by go_grown⟩
def RtRel (S : Nat) (s v : Value) (a b : Int) (zs : List Int) (w : World) (k : Nat) (i : Value) (wr : World) : Prop :=
  ∃ j, j ≤ zs.length ∧ k = zs.length - j ∧ i = .int .i64 (j : Int) ∧ Hid (∀ t, t < j → 0 ≤ zs.getD t 0 ∧ zs.getD t 0 ≤ 255) ∧ (∀ o, wr.cell? ⟨S, o, none⟩ = (#[s, .int .i64 a, .int .i64 b, v] : Array Value)[o]?) ∧ Below S w wr
set_option maxHeartbeats 4000000 in
theorem rright_any (s v : Value) (a b : Int) (zs : List Int) (r : Bool) (hr : rightB a b zs = r) (w : World) (hv : Ints w v zs) :
    Calls Try.prog 56 #[.agg #[s, .int .i64 a, .int .i64 b, v]] w fun e w' => e = .returned (.bool r) ∧ Below w.heap.size w w' := by
  by_cases h0 : a < 1
  · have d0 : decide (a < 1) = true := decide_eq_true h0
    have n0 : decide (1 ≤ a) = false := decide_eq_false (by omega)
    obtain rfl : r = false := by rw [← hr, rightB, n0]; simp
    clear hr hv h0
    go_enter Try.func56, Try.ntmps56
    go_wp2_with fail
    go_returns
    exact ⟨by simp, by (repeat' (first | (with_reducible exact Below.refl _ _) | (with_reducible refine bstep (by with_reducible assumption) ?_) | (with_reducible refine Below.alloc ?_ ?_ _) | (with_reducible refine Below.drew ?_) | (with_reducible refine below_drewN ?_ _) | (with_reducible refine Below.setCell ?_ ?_ _) | go_size))⟩
  have d0 : decide (a < 1) = false := decide_eq_false h0
  by_cases h1 : 16 < a
  · have d1 : decide (16 < a) = true := decide_eq_true h1
    have n1 : decide (a ≤ 16) = false := decide_eq_false (by omega)
    obtain rfl : r = false := by rw [← hr, rightB, n1]; simp
    clear hr hv h0 h1
    go_enter Try.func56, Try.ntmps56
    go_wp2_with fail
    go_returns
    exact ⟨by simp, by (repeat' (first | (with_reducible exact Below.refl _ _) | (with_reducible refine bstep (by with_reducible assumption) ?_) | (with_reducible refine Below.alloc ?_ ?_ _) | (with_reducible refine Below.drew ?_) | (with_reducible refine below_drewN ?_ _) | (with_reducible refine Below.setCell ?_ ?_ _) | go_size))⟩
  have d1 : decide (16 < a) = false := decide_eq_false h1
  by_cases h2 : b < 1
  · have d2 : decide (b < 1) = true := decide_eq_true h2
    have n2 : decide (1 ≤ b) = false := decide_eq_false (by omega)
    obtain rfl : r = false := by rw [← hr, rightB, n2]; simp
    clear hr hv h0 h1 h2
    go_enter Try.func56, Try.ntmps56
    go_wp2_with fail
    go_returns
    exact ⟨by simp, by (repeat' (first | (with_reducible exact Below.refl _ _) | (with_reducible refine bstep (by with_reducible assumption) ?_) | (with_reducible refine Below.alloc ?_ ?_ _) | (with_reducible refine Below.drew ?_) | (with_reducible refine below_drewN ?_ _) | (with_reducible refine Below.setCell ?_ ?_ _) | go_size))⟩
  have d2 : decide (b < 1) = false := decide_eq_false h2
  by_cases h3 : 16 < b
  · have d3 : decide (16 < b) = true := decide_eq_true h3
    have n3 : decide (b ≤ 16) = false := decide_eq_false (by omega)
    obtain rfl : r = false := by rw [← hr, rightB, n3]; simp
    clear hr hv h0 h1 h2 h3
    go_enter Try.func56, Try.ntmps56
    go_wp2_with fail
    go_returns
    exact ⟨by simp, by (repeat' (first | (with_reducible exact Below.refl _ _) | (with_reducible refine bstep (by with_reducible assumption) ?_) | (with_reducible refine Below.alloc ?_ ?_ _) | (with_reducible refine Below.drew ?_) | (with_reducible refine below_drewN ?_ _) | (with_reducible refine Below.setCell ?_ ?_ _) | go_size))⟩
  have d3 : decide (16 < b) = false := decide_eq_false h3
  have ⟨p1, p2⟩ := mul_le (show 0 ≤ a by omega) (show a ≤ 16 by omega) (show 0 ≤ b by omega) (show b ≤ 16 by omega)
  have hp : 1 ≤ a * b := by have := Int.mul_le_mul (show 1 ≤ a by omega) (show 1 ≤ b by omega) (by omega) (by omega); omega
  have m0 : IntKind.i64.wrap (a * b) = a * b := IntWalk.i64_in _ (by omega)
  have e1 : decide (1 ≤ a) = true := decide_eq_true (by omega)
  have e2 : decide (a ≤ 16) = true := decide_eq_true (by omega)
  have e3 : decide (1 ≤ b) = true := decide_eq_true (by omega)
  have e4 : decide (b ≤ 16) = true := decide_eq_true (by omega)
  rw [rightB, e1, e2, e3, e4, Bool.true_and, Bool.true_and, Bool.true_and, Bool.true_and] at hr
  clear e1 e2 e3 e4
  obtain ⟨ab, hab⟩ : ∃ p, a * b = p := ⟨_, rfl⟩
  rw [hab] at p1 p2 hp m0 hr
  clear h0 h1 h2 h3
  rcases hv with ⟨rfl, p, c, rfl⟩ | ⟨bl, off, c, rfl, g0, hc, hm, hlt, hcell⟩
  · have d5 : (0 == ab) = false := beq_eq_false_iff_ne.mpr (by omega)
    have d6 : decide ((([] : List Int).length : Int) = ab) = false := decide_eq_false (by simp; omega)
    have d7 : ¬ (0 : Int) = ab := by omega
    obtain rfl : r = false := by rw [← hr, d6]; simp
    clear hr p1 p2 hp
    go_enter Try.func56, Try.ntmps56
    go_wp2_with fail
    go_returns
    exact ⟨by simp, by (repeat' (first | (with_reducible exact Below.refl _ _) | (with_reducible refine bstep (by with_reducible assumption) ?_) | (with_reducible refine Below.alloc ?_ ?_ _) | (with_reducible refine Below.drew ?_) | (with_reducible refine below_drewN ?_ _) | (with_reducible refine Below.setCell ?_ ?_ _) | go_size))⟩
  by_cases h5 : (zs.length : Int) = ab
  case neg =>
    have d5 : decide ((zs.length : Int) = ab) = false := decide_eq_false h5
    have d6 : ((zs.length : Int) == ab) = false := beq_eq_false_iff_ne.mpr h5
    obtain rfl : r = false := by rw [← hr, d5]; simp
    obtain ⟨n, hn⟩ : ∃ n, zs.length = n := ⟨_, rfl⟩
    rw [hn] at h5 d5 d6 ⊢
    clear hr p1 p2 hp hcell hc hm
    go_enter Try.func56, Try.ntmps56
    go_wp2_with fail
    go_returns
    exact ⟨by simp, by (repeat' (first | (with_reducible exact Below.refl _ _) | (with_reducible refine bstep (by with_reducible assumption) ?_) | (with_reducible refine Below.alloc ?_ ?_ _) | (with_reducible refine Below.drew ?_) | (with_reducible refine below_drewN ?_ _) | (with_reducible refine Below.setCell ?_ ?_ _) | go_size))⟩
  have d5 : decide ((zs.length : Int) = ab) = true := decide_eq_true h5
  have hl : 0 < zs.length := by omega
  have hall : r = true ↔ ∀ t, t < zs.length → 0 ≤ zs.getD t 0 ∧ zs.getD t 0 ≤ 255 := by
    rw [← hr, d5, Bool.true_and, Bool.and_eq_true, decide_eq_true_eq, decide_eq_true_eq, le_minOf hl, maxOf_le hl]
    constructor
    · intro ⟨h1, h2⟩ t ht
      have hz : zs.getD t 0 ∈ zs := by rw [List.getD_eq_getElem?_getD, List.getElem?_eq_getElem ht]; exact List.getElem_mem ht
      exact ⟨h1 _ hz, h2 _ hz⟩
    · intro h
      constructor <;> intro z hz <;> obtain ⟨t, ht, rfl⟩ := List.mem_iff_getElem.1 hz <;> have := h t ht <;> rw [List.getD_eq_getElem?_getD, List.getElem?_eq_getElem ht] at this
      · exact this.1
      · exact this.2
  have HALL := Lib.hid hall
  have HC := Lib.hid hcell
  obtain rfl : ab = (zs.length : Int) := h5.symm
  clear hr hall hcell d5 hp
  go_enter Try.func56, Try.ntmps56
  go_wp2_with fail
  go_loopg [3] zs.length (fun k i wr => RtRel w.heap.size s (.slice (some ⟨bl, off, none⟩) zs.length c) a b zs w k i wr)
  case atStart => exact ⟨0, by omega, by omega, rfl, Lib.hid (fun t ht => absurd ht (by omega)), by (repeat (first | (with_reducible assumption) | (focus ((with_reducible refine new_at ?_ _ _); (repeat (first | (with_reducible rfl) | (with_reducible refine sz1 ?_))); done)) | (with_reducible refine blk_alloc (by simp) _ ?_) | (with_reducible refine blk_drew ?_))), by (repeat' (first | (with_reducible exact Below.refl _ _) | (with_reducible refine bstep (by with_reducible assumption) ?_) | (with_reducible refine Below.alloc ?_ ?_ _) | (with_reducible refine Below.drew ?_) | (with_reducible refine below_drewN ?_ _) | (with_reducible refine Below.setCell ?_ ?_ _) | go_size))⟩
  case round =>
    obtain ⟨j, hj, rfl, rfl, GD, B1, hb⟩ := hrel
    have HB := Lib.hid hb
    have s1 : w.heap.size < wr.heap.size := blk_lt (by simp) B1
    by_cases hjm : j < zs.length
    · have x0 := (hb.cell (p := ⟨bl, off + j, none⟩) hlt).trans (HC.out j hjm)
      obtain ⟨z, hz⟩ : ∃ z, zs.getD j 0 = z := ⟨_, rfl⟩
      rw [hz] at x0
      have hj0 : (0 : Int) ≤ (j : Int) := by omega
      have hj1 : (j : Int) < (zs.length : Int) := by omega
      clear hb
      by_cases hn : z < 0
      · have dn : decide (z < 0) = true := decide_eq_true hn
        obtain rfl : r = false := by
          cases r
          · rfl
          · have := HALL.out.1 rfl j hjm; omega
        clear hn
        go_wp2_with fail
        have HB' := HB.out
        go_returns
        exact ⟨by simp, by (repeat' (first | (with_reducible exact Below.refl _ _) | (with_reducible refine bstep (by with_reducible assumption) ?_) | (with_reducible refine Below.alloc ?_ ?_ _) | (with_reducible refine Below.drew ?_) | (with_reducible refine below_drewN ?_ _) | (with_reducible refine Below.setCell ?_ ?_ _) | go_size))⟩
      have dn : decide (z < 0) = false := decide_eq_false hn
      by_cases hx : 255 < z
      · have dx : decide (255 < z) = true := decide_eq_true hx
        obtain rfl : r = false := by
          cases r
          · rfl
          · have := HALL.out.1 rfl j hjm; omega
        clear hn hx
        go_wp2_with fail
        have HB' := HB.out
        go_returns
        exact ⟨by simp, by (repeat' (first | (with_reducible exact Below.refl _ _) | (with_reducible refine bstep (by with_reducible assumption) ?_) | (with_reducible refine Below.alloc ?_ ?_ _) | (with_reducible refine Below.drew ?_) | (with_reducible refine below_drewN ?_ _) | (with_reducible refine Below.setCell ?_ ?_ _) | go_size))⟩
      have dx : decide (255 < z) = false := decide_eq_false hx
      have GD' : Hid (∀ t, t < j + 1 → 0 ≤ zs.getD t 0 ∧ zs.getD t 0 ≤ 255) := by
        intro t ht
        by_cases e : t = j
        · subst e; rw [hz]; omega
        · exact GD.out t (by omega)
      clear hn hx
      go_wp2_with fail
      have HB' := HB.out
      go_roundg (zs.length - (j + 1))
      case measure => omega
      case rel => exact ⟨j + 1, by omega, rfl, by first | (simp; done) | (simp; exact w64 (by omega) (by omega)), GD', B1, by (repeat' (first | (with_reducible exact Below.refl _ _) | (with_reducible refine bstep (by with_reducible assumption) ?_) | (with_reducible refine Below.alloc ?_ ?_ _) | (with_reducible refine Below.drew ?_) | (with_reducible refine below_drewN ?_ _) | (with_reducible refine Below.setCell ?_ ?_ _) | go_size))⟩
    · obtain rfl : j = zs.length := by omega
      have hj1 : ¬ ((zs.length : Int) < (zs.length : Int)) := by omega
      obtain rfl : r = true := HALL.out.2 GD.out
      clear hb
      go_wp2_with fail
      have HB' := HB.out
      go_returns
      exact ⟨by simp, by (repeat' (first | (with_reducible exact Below.refl _ _) | (with_reducible refine bstep (by with_reducible assumption) ?_) | (with_reducible refine Below.alloc ?_ ?_ _) | (with_reducible refine Below.drew ?_) | (with_reducible refine below_drewN ?_ _) | (with_reducible refine Below.setCell ?_ ?_ _) | go_size))⟩
set_option maxHeartbeats 2000000 in
theorem rtexel_is (s v : Value) (tw th : Int) (zs : List Int) (x y z : Int) (ok : Bool) (val : Int) (hok : texok tw th zs x y z = ok) (hval : txv ok tw th zs x y z = val) (w : World) (hv : Ints w v zs) :
    Calls Try.prog 33 #[.agg #[s, .int .i64 tw, .int .i64 th, v], V3 x y z] w fun e w' => e = .returned (.tuple #[.int .i64 val, .bool ok]) ∧ Below w.heap.size w w' := by
  subst hval
  have hlater : ∀ w', Below w.heap.size w w' → Ints w' v zs := by
    intro w' hb
    rcases hv with h | ⟨bl, off, c, h1, h2, h3, h4, h5, h6⟩
    · exact .inl h
    · exact .inr ⟨bl, off, c, h1, h2, h3, h4, by have := hb.size; omega, fun j hj => (hb.cell (p := ⟨bl, off + j, none⟩) h5).trans (h6 j hj)⟩
  cases hr : rightB tw th zs
  · obtain rfl : ok = false := by rw [← hok]; simp [texok, hr]
    have RI := Lib.hid (fun w' hb => rright_any s v tw th zs false hr w' (hlater w' hb))
    clear hok hr hlater hv
    go_enter Try.func33, Try.ntmps33
    go_wp2_with (go_at_call 56; ((refine (RI.out _ (by (repeat' (first | (with_reducible exact Below.refl _ _) | (with_reducible refine bstep (by with_reducible assumption) ?_) | (with_reducible refine Below.alloc ?_ ?_ _) | (with_reducible refine Below.drew ?_) | (with_reducible refine below_drewN ?_ _) | (with_reducible refine Below.setCell ?_ ?_ _) | go_size)))).mono ?_); rintro e w1 ⟨rfl, hb1⟩))
    go_returns
    exact ⟨by simp [txv], by (repeat' (first | (with_reducible exact Below.refl _ _) | (with_reducible refine bstep (by with_reducible assumption) ?_) | (with_reducible refine Below.alloc ?_ ?_ _) | (with_reducible refine Below.drew ?_) | (with_reducible refine below_drewN ?_ _) | (with_reducible refine Below.setCell ?_ ?_ _) | go_size))⟩
  have RI := Lib.hid (fun w' hb => rright_any s v tw th zs true hr w' (hlater w' hb))
  cases hp : inB x y z 65536
  · obtain rfl : ok = false := by rw [← hok]; simp [texok, hr, hp]
    have WI := Lib.hid (within0_is hp)
    clear hok hr hlater hv hp
    go_enter Try.func33, Try.ntmps33
    go_wp2_with (first
      | (go_at_call 56; ((refine (RI.out _ (by (repeat' (first | (with_reducible exact Below.refl _ _) | (with_reducible refine bstep (by with_reducible assumption) ?_) | (with_reducible refine Below.alloc ?_ ?_ _) | (with_reducible refine Below.drew ?_) | (with_reducible refine below_drewN ?_ _) | (with_reducible refine Below.setCell ?_ ?_ _) | go_size)))).mono ?_); rintro e w1 ⟨rfl, hb1⟩; have P1 : ∀ o, w1.cell? ⟨w.heap.size + 1, o, none⟩ = (#[.int .i64 x, .int .i64 y, .int .i64 z] : Array Value)[o]? := blk_later (by simp) hb1 (by (repeat (first | (with_reducible assumption) | (focus ((with_reducible refine new_at ?_ _ _); (repeat (first | (with_reducible rfl) | (with_reducible refine sz1 ?_))); done)) | (with_reducible refine blk_alloc (by simp) _ ?_) | (with_reducible refine blk_drew ?_))))))
      | (go_at_call 54; ((with_reducible refine (WI.out _).mono ?_); rintro e w2 ⟨rfl, hb2⟩)))
    go_returns
    exact ⟨by simp [txv], by (repeat' (first | (with_reducible exact Below.refl _ _) | (with_reducible refine bstep (by with_reducible assumption) ?_) | (with_reducible refine Below.alloc ?_ ?_ _) | (with_reducible refine Below.drew ?_) | (with_reducible refine below_drewN ?_ _) | (with_reducible refine Below.setCell ?_ ?_ _) | go_size))⟩
  obtain rfl : ok = true := by rw [← hok]; simp [texok, hr, hp]
  have WI := Lib.hid (within0_is hp)
  rw [inB_iff (by omega) (by omega)] at hp
  have hr' := hr
  simp only [rightB, Bool.and_eq_true, decide_eq_true_eq] at hr'
  obtain ⟨⟨⟨⟨⟨⟨r1, r2⟩, r3⟩, r4⟩, r5⟩, _⟩, _⟩ := hr'
  have ⟨s1, s2⟩ := stp_le (n := y + z) (m := th) (by omega)
  have ⟨s3, s4⟩ := stp_le (n := x) (m := tw) (by omega)
  have S1 := rstep_any (y + z) th _ rfl r3 r4 (by omega)
  have S2 := rstep_any x tw _ rfl r1 r2 (by omega)
  have q1 := Int.mul_le_mul_of_nonneg_right (show stp (y + z) th ≤ th - 1 by omega) (show 0 ≤ tw by omega)
  have q2 := Int.mul_nonneg s1 (show 0 ≤ tw by omega)
  rw [Int.sub_mul, Int.one_mul, Int.mul_comm th tw] at q1
  have ⟨p1, p2⟩ := mul_le (show 0 ≤ tw by omega) r2 (show 0 ≤ th by omega) r4
  obtain ⟨k, hk⟩ : ∃ k : Nat, stp (y + z) th * tw + stp x tw = (k : Int) := ⟨(stp (y + z) th * tw + stp x tw).toNat, by omega⟩
  have hkn : k < zs.length := by omega
  have ei : txv true tw th zs x y z = zs.getD k 0 := by unfold txv txi; rw [if_pos rfl, hk, Int.toNat_natCast]
  rw [ei]
  have hk0 : (0 : Int) ≤ (k : Int) := by omega
  rcases hv with ⟨rfl, _⟩ | ⟨bl, off, c, rfl, h0, hc, hm, hlt, hcell⟩
  · exact absurd hkn (by simp)
  have hk1 : (k : Int) < (zs.length : Int) := by omega
  have w0 : IntKind.i64.wrap (y + z) = y + z := IntWalk.i64_in _ (by omega)
  have w1 : IntKind.i64.wrap (stp (y + z) th * tw) = stp (y + z) th * tw := IntWalk.i64_in _ (by omega)
  obtain ⟨a1, ha1⟩ : ∃ p, stp (y + z) th = p := ⟨_, rfl⟩
  obtain ⟨a2, ha2⟩ : ∃ p, stp x tw = p := ⟨_, rfl⟩
  rw [ha1] at w1 hk S1 s1 s2 q1 q2
  rw [ha2] at hk S2 s3 s4
  obtain ⟨b1, hb1⟩ : ∃ p, a1 * tw = p := ⟨_, rfl⟩
  rw [hb1] at w1 hk q1 q2
  have w2 : IntKind.i64.wrap (b1 + a2) = (k : Int) := by rw [hk]; exact IntWalk.i64_in _ (by omega)
  obtain ⟨yz, hyz⟩ : ∃ p, y + z = p := ⟨_, rfl⟩
  rw [hyz] at S1 w0
  have S1 := Lib.hid S1
  have S2 := Lib.hid S2
  obtain ⟨val, hval⟩ : ∃ p, zs.getD k 0 = p := ⟨_, rfl⟩
  have E0 := hcell k hkn
  rw [hval] at E0 ⊢
  obtain ⟨n, hn⟩ : ∃ n, zs.length = n := ⟨_, rfl⟩
  rw [hn] at hk1 RI ⊢
  clear hok hr r1 r2 r3 r4 r5 s1 s2 s3 s4 q1 q2 p1 p2 hp hcell hlater ha1 ha2 hval ei hm hk hc
  go_enter Try.func33, Try.ntmps33
  go_wp2_with (first
    | (go_at_call 56; ((refine (RI.out _ (by (repeat' (first | (with_reducible exact Below.refl _ _) | (with_reducible refine bstep (by with_reducible assumption) ?_) | (with_reducible refine Below.alloc ?_ ?_ _) | (with_reducible refine Below.drew ?_) | (with_reducible refine below_drewN ?_ _) | (with_reducible refine Below.setCell ?_ ?_ _) | go_size)))).mono ?_); rintro e w1 ⟨rfl, hb1⟩; have T1 : ∀ o, w1.cell? ⟨w.heap.size, o, none⟩ = (#[s, .int .i64 tw, .int .i64 th, .slice (some ⟨bl, off, none⟩) n c] : Array Value)[o]? := blk_later (by simp) hb1 (by (repeat (first | (with_reducible assumption) | (focus ((with_reducible refine new_at ?_ _ _); (repeat (first | (with_reducible rfl) | (with_reducible refine sz1 ?_))); done)) | (with_reducible refine blk_alloc (by simp) _ ?_) | (with_reducible refine blk_drew ?_)))); have P1 : ∀ o, w1.cell? ⟨w.heap.size + 1, o, none⟩ = (#[.int .i64 x, .int .i64 y, .int .i64 z] : Array Value)[o]? := blk_later (by simp) hb1 (by (repeat (first | (with_reducible assumption) | (focus ((with_reducible refine new_at ?_ _ _); (repeat (first | (with_reducible rfl) | (with_reducible refine sz1 ?_))); done)) | (with_reducible refine blk_alloc (by simp) _ ?_) | (with_reducible refine blk_drew ?_)))); have E1 := cell_later hb1 (cell_alloc _ (cell_alloc _ E0))))
    | (go_at_call 54; ((with_reducible refine (WI.out _).mono ?_); rintro e w2 ⟨rfl, hb2⟩; have T2 := blk_later (by simp) hb2 T1; have P2 := blk_later (by simp) hb2 P1; have E2 := cell_later hb2 E1)))
  go_region_held3 (fun w' => (∀ o, w'.cell? ⟨w.heap.size, o, none⟩ = (#[s, .int .i64 tw, .int .i64 th, .slice (some ⟨bl, off, none⟩) n c] : Array Value)[o]?) ∧ (∀ o, w'.cell? ⟨w.heap.size + 1, o, none⟩ = (#[.int .i64 x, .int .i64 y, .int .i64 z] : Array Value)[o]?) ∧ w'.cell? ⟨bl, off + k, none⟩ = some (.int .i64 val))
    (((first | (go_split_ands; skip) | skip); (repeat' apply And.intro) <;> (first | assumption | (with_reducible exact blk_drew (by assumption)) | (with_reducible exact blk_later (by simp) (by assumption) (by assumption)) | (with_reducible exact cell_later (by assumption) (by assumption)))))
    (first
      | (go_at_call 57; ((with_reducible refine (S1.out _).mono ?_); rintro e v3 ⟨rfl, hb3⟩))
      | (go_at_call 57; ((with_reducible refine (S2.out _).mono ?_); rintro e v4 ⟨rfl, hb4⟩)))
  all_goals
    go_wp2_with fail
    go_returns
    exact ⟨by simp, by (repeat' (first | (with_reducible exact Below.refl _ _) | (with_reducible refine bstep (by with_reducible assumption) ?_) | (with_reducible refine Below.alloc ?_ ?_ _) | (with_reducible refine Below.drew ?_) | (with_reducible refine below_drewN ?_ _) | (with_reducible refine Below.setCell ?_ ?_ _) | go_size))⟩
end Go.Proofs.Ytdemcleibpgglaa
