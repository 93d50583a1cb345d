/- The law on units, walked: for all curves, units and additions of 64 bits it answers true. -/
import Derived.Test.YtbmemnbfdbpdkaaRate
namespace Go.Proofs.Ytbmemnbfdbpdkaa
open Go.RowKit
set_option maxRecDepth 100000
set_option linter.unusedSimpArgs false
set_option linter.unusedVariables false
theorem list12 {l : List Int} (h : l.length = 12) : ∃ x0 y0 z0 x1 y1 z1 x2 y2 z2 x3 y3 z3, l = [x0, y0, z0, x1, y1, z1, x2, y2, z2, x3, y3, z3] := by
  match l, h with
  | [x0, y0, z0, x1, y1, z1, x2, y2, z2, x3, y3, z3], _ => exact ⟨x0, y0, z0, x1, y1, z1, x2, y2, z2, x3, y3, z3, rfl⟩
theorem edgeF_rng {n unit : Int} (h0 : 0 ≤ n) (h1 : ¬ unit < 1) : 1 ≤ edgeF true n unit ∧ edgeF true n unit ≤ 16 := by
  have := Int.ediv_nonneg h0 (show 0 ≤ unit by omega)
  unfold edgeF mn
  rw [if_pos rfl, if_neg h1]
  split <;> omega
theorem edgeF_more {n unit more : Int} (h0 : 0 ≤ n) (h1 : ¬ unit < 1) (h2 : 0 ≤ more) : edgeF true n (unit + more) ≤ edgeF true n unit := by
  have h3 : n / (unit + more) ≤ n / unit := by
    have a := Int.mul_ediv_self_le (x := n) (k := unit + more) (by omega)
    have b := Int.ediv_nonneg h0 (show 0 ≤ unit + more by omega)
    refine Int.le_ediv_of_mul_le (by omega) ?_
    have c : n / (unit + more) * unit ≤ (unit + more) * (n / (unit + more)) := by
      rw [Int.mul_comm (unit + more)]
      exact Int.mul_le_mul_of_nonneg_left (by omega) b
    omega
  unfold edgeF mn
  rw [if_pos rfl, if_pos rfl, if_neg h1, if_neg (by omega)]
  split <;> split <;> omega
theorem alive12_any (w : World) : Calls Try.prog 14 #[] w fun e w' => e = .returned (.bool true) ∧ Below w.heap.size w w' := by
  have a1 : allIn 0 0 0 3 0 0 3 (-3) 0 3 (-3) 3 = true := by simp [allIn, inB, mx, mn, wrap64]
  have a2 : lenF 0 0 0 3 0 0 3 (-3) 0 3 (-3) 3 = 9 := by simp [lenF, wayF, mx]
  have e1 : edgeF true 9 4 = 3 := by decide
  have e2 : edgeF true 9 0 = 0 := by decide
  have K := len_any 0 0 0 3 0 0 3 (-3) 0 3 (-3) 3
  have E1 := edge_any 0 0 0 3 0 0 3 (-3) 0 3 (-3) 3 4
  have E2 := edge_any 0 0 0 3 0 0 3 (-3) 0 3 (-3) 3 0
  rw [a1, a2] at K E1 E2
  rw [e1] at E1
  rw [e2] at E2
  rw [if_pos rfl] at K
  have K := Lib.hid K
  have E1 := Lib.hid E1
  have E2 := Lib.hid E2
  clear a1 a2 e1 e2
  go_enter Try.func14, Try.ntmps14
  go_wp2_with (first
    | (go_at_call 16; ((with_reducible refine (K.out _).mono ?_); rintro e w1 ⟨rfl, hb1⟩; obtain ⟨hc1, hf1⟩ := bcell hb1))
    | (go_at_call 15; ((with_reducible refine (E1.out _).mono ?_); rintro e w2 ⟨rfl, hb2⟩; obtain ⟨hc2, hf2⟩ := bcell hb2; have hz : w.heap.size < w1.heap.size := (by have := hb1.size; rw [World.size_alloc] at this; omega)))
    | (go_at_call 15; ((with_reducible refine (E2.out _).mono ?_); rintro e w3 ⟨rfl, hb3⟩)))
  go_returns
  exact ⟨by simp, by (repeat' (first | (with_reducible exact Below.refl _ _) | (with_reducible refine bstep (by with_reducible assumption) ?_) | (with_reducible refine Below.alloc ?_ ?_ _) | (with_reducible refine Below.drew ?_) | (with_reducible refine below_drewN ?_ _) | (with_reducible refine Below.setCell ?_ ?_ _) | go_size))⟩
theorem rateUnits_flat (x0 y0 z0 x1 y1 z1 x2 y2 z2 x3 y3 z3 unit more : Int) (bu : I64 unit) (bm : I64 more) (w : World) :
    Calls Try.prog 3 #[.agg (C12 x0 y0 z0 x1 y1 z1 x2 y2 z2 x3 y3 z3), .int .i64 unit, .int .i64 more] w fun e w' => e = .returned (.bool true) ∧ Below w.heap.size w w' := by
  have L0 := len_any x0 y0 z0 x1 y1 z1 x2 y2 z2 x3 y3 z3
  have E0 := edge_any x0 y0 z0 x1 y1 z1 x2 y2 z2 x3 y3 z3 unit
  have E9 := edge_any x0 y0 z0 x1 y1 z1 x2 y2 z2 x3 y3 z3 (unit + more)
  have hle := lenF_le x0 y0 z0 x1 y1 z1 x2 y2 z2 x3 y3 z3
  obtain ⟨b, hb⟩ : ∃ b, allIn x0 y0 z0 x1 y1 z1 x2 y2 z2 x3 y3 z3 = b := ⟨_, rfl⟩
  obtain ⟨n, hn⟩ : ∃ n, lenF x0 y0 z0 x1 y1 z1 x2 y2 z2 x3 y3 z3 = n := ⟨_, rfl⟩
  rw [hb, hn] at L0 E0 E9 hle
  obtain ⟨m, hm⟩ : ∃ m, (if b = true then n else 0) = m := ⟨_, rfl⟩
  rw [hm] at L0
  have L := Lib.hid L0
  clear hb hn hm L0
  by_cases hz : b = false ∨ unit < 1
  · have e0 : edgeF b n unit = 0 := by
      unfold edgeF
      rcases hz with rfl | hz
      · rw [if_neg (by simp)]
      · rw [if_pos hz]; split <;> rfl
    rw [e0] at E0
    have E := Lib.hid E0
    clear E0 E9 e0 hle
    by_cases hu : unit < 1
    · have hu' : decide (unit < 1) = true := decide_eq_true hu
      clear hz hu
      go_enter Try.func3, Try.ntmps3
      go_wp2_with (first | (go_at_call 14; ((with_reducible refine (alive12_any _).mono ?_); rintro e w1 ⟨rfl, hb1⟩; obtain ⟨hc1, hf1⟩ := bcell hb1; have hz1 : w.heap.size < w1.heap.size := (by have := hb1.size; rw [World.size_alloc] at this; omega))) | (go_at_call 15; ((with_reducible refine (E.out _).mono ?_); rintro e w2 ⟨rfl, hb2⟩; obtain ⟨hc2, hf2⟩ := bcell hb2; have hz2 : w.heap.size < w2.heap.size := (by have := hb2.size; omega))) | (go_at_call 15; ((with_reducible refine (E9.out _).mono ?_); rintro e w3 ⟨rfl, hb3⟩)) | (go_at_call 16; ((with_reducible refine (L.out _).mono ?_); rintro e w3 ⟨rfl, hb3⟩)))
      go_returns
      exact ⟨by simp, by (repeat' (first | (with_reducible exact Below.refl _ _) | (with_reducible refine bstep (by with_reducible assumption) ?_) | (with_reducible refine Below.alloc ?_ ?_ _) | (with_reducible refine Below.drew ?_) | (with_reducible refine below_drewN ?_ _) | (with_reducible refine Below.setCell ?_ ?_ _) | go_size))⟩
    · have hu' : decide (unit < 1) = false := decide_eq_false hu
      obtain rfl : b = false := by rcases hz with h | h; exact h; exact absurd h hu
      clear hz hu
      go_enter Try.func3, Try.ntmps3
      go_wp2_with (first | (go_at_call 14; ((with_reducible refine (alive12_any _).mono ?_); rintro e w1 ⟨rfl, hb1⟩; obtain ⟨hc1, hf1⟩ := bcell hb1; have hz1 : w.heap.size < w1.heap.size := (by have := hb1.size; rw [World.size_alloc] at this; omega))) | (go_at_call 15; ((with_reducible refine (E.out _).mono ?_); rintro e w2 ⟨rfl, hb2⟩; obtain ⟨hc2, hf2⟩ := bcell hb2; have hz2 : w.heap.size < w2.heap.size := (by have := hb2.size; omega))) | (go_at_call 15; ((with_reducible refine (E9.out _).mono ?_); rintro e w3 ⟨rfl, hb3⟩)) | (go_at_call 16; ((with_reducible refine (L.out _).mono ?_); rintro e w3 ⟨rfl, hb3⟩)))
      go_returns
      exact ⟨by simp, by (repeat' (first | (with_reducible exact Below.refl _ _) | (with_reducible refine bstep (by with_reducible assumption) ?_) | (with_reducible refine Below.alloc ?_ ?_ _) | (with_reducible refine Below.drew ?_) | (with_reducible refine below_drewN ?_ _) | (with_reducible refine Below.setCell ?_ ?_ _) | go_size))⟩
  · have hu : ¬ unit < 1 := fun h => hz (.inr h)
    obtain rfl : b = true := by
      cases b with
      | true => rfl
      | false => exact absurd (.inl rfl) hz
    obtain ⟨n0, n1⟩ := hle rfl
    obtain ⟨r1, r2⟩ := edgeF_rng n0 hu
    have q1 := edgeF_rng (n := n) (unit := unit + more) n0
    have q2 := fun h => edgeF_more (n := n) (unit := unit) (more := more) n0 hu h
    obtain ⟨a, ha⟩ : ∃ a, edgeF true n unit = a := ⟨_, rfl⟩
    obtain ⟨c, hc⟩ : ∃ c, edgeF true n (unit + more) = c := ⟨_, rfl⟩
    rw [ha] at E0 r1 r2 q2
    rw [hc] at E9 q1 q2
    have E := Lib.hid E0
    have E9 := Lib.hid E9
    have d0 : (a == 0) = false := beq_eq_false_iff_ne.mpr (by omega)
    have d1 : decide (1 ≤ a) = true := decide_eq_true r1
    have d2 : decide (a ≤ 16) = true := decide_eq_true r2
    clear ha hc hz E0
    by_cases h1 : more < 0
    · have k1 : decide (more < 0) = true := decide_eq_true h1
      clear h1 q1 q2 E9
      go_enter Try.func3, Try.ntmps3
      go_wp2_with (first | (go_at_call 14; ((with_reducible refine (alive12_any _).mono ?_); rintro e w1 ⟨rfl, hb1⟩; obtain ⟨hc1, hf1⟩ := bcell hb1; have hz1 : w.heap.size < w1.heap.size := (by have := hb1.size; rw [World.size_alloc] at this; omega))) | (go_at_call 15; ((with_reducible refine (E.out _).mono ?_); rintro e w2 ⟨rfl, hb2⟩; obtain ⟨hc2, hf2⟩ := bcell hb2; have hz2 : w.heap.size < w2.heap.size := (by have := hb2.size; omega))) | (go_at_call 15; ((with_reducible refine (E9.out _).mono ?_); rintro e w3 ⟨rfl, hb3⟩)) | (go_at_call 16; ((with_reducible refine (L.out _).mono ?_); rintro e w3 ⟨rfl, hb3⟩)))
      go_returns
      exact ⟨by simp, by (repeat' (first | (with_reducible exact Below.refl _ _) | (with_reducible refine bstep (by with_reducible assumption) ?_) | (with_reducible refine Below.alloc ?_ ?_ _) | (with_reducible refine Below.drew ?_) | (with_reducible refine below_drewN ?_ _) | (with_reducible refine Below.setCell ?_ ?_ _) | go_size))⟩
    have k1 : decide (more < 0) = false := decide_eq_false h1
    by_cases h2 : 1048576 < more
    · have k2 : decide (1048576 < more) = true := decide_eq_true h2
      clear h1 h2 q1 q2 E9
      go_enter Try.func3, Try.ntmps3
      go_wp2_with (first | (go_at_call 14; ((with_reducible refine (alive12_any _).mono ?_); rintro e w1 ⟨rfl, hb1⟩; obtain ⟨hc1, hf1⟩ := bcell hb1; have hz1 : w.heap.size < w1.heap.size := (by have := hb1.size; rw [World.size_alloc] at this; omega))) | (go_at_call 15; ((with_reducible refine (E.out _).mono ?_); rintro e w2 ⟨rfl, hb2⟩; obtain ⟨hc2, hf2⟩ := bcell hb2; have hz2 : w.heap.size < w2.heap.size := (by have := hb2.size; omega))) | (go_at_call 15; ((with_reducible refine (E9.out _).mono ?_); rintro e w3 ⟨rfl, hb3⟩)) | (go_at_call 16; ((with_reducible refine (L.out _).mono ?_); rintro e w3 ⟨rfl, hb3⟩)))
      go_returns
      exact ⟨by simp, by (repeat' (first | (with_reducible exact Below.refl _ _) | (with_reducible refine bstep (by with_reducible assumption) ?_) | (with_reducible refine Below.alloc ?_ ?_ _) | (with_reducible refine Below.drew ?_) | (with_reducible refine below_drewN ?_ _) | (with_reducible refine Below.setCell ?_ ?_ _) | go_size))⟩
    have k2 : decide (1048576 < more) = false := decide_eq_false h2
    by_cases h3 : 1048576 < unit
    · have k3 : decide (1048576 < unit) = true := decide_eq_true h3
      clear h1 h2 h3 q1 q2 E9
      go_enter Try.func3, Try.ntmps3
      go_wp2_with (first | (go_at_call 14; ((with_reducible refine (alive12_any _).mono ?_); rintro e w1 ⟨rfl, hb1⟩; obtain ⟨hc1, hf1⟩ := bcell hb1; have hz1 : w.heap.size < w1.heap.size := (by have := hb1.size; rw [World.size_alloc] at this; omega))) | (go_at_call 15; ((with_reducible refine (E.out _).mono ?_); rintro e w2 ⟨rfl, hb2⟩; obtain ⟨hc2, hf2⟩ := bcell hb2; have hz2 : w.heap.size < w2.heap.size := (by have := hb2.size; omega))) | (go_at_call 15; ((with_reducible refine (E9.out _).mono ?_); rintro e w3 ⟨rfl, hb3⟩)) | (go_at_call 16; ((with_reducible refine (L.out _).mono ?_); rintro e w3 ⟨rfl, hb3⟩)))
      go_returns
      exact ⟨by simp, by (repeat' (first | (with_reducible exact Below.refl _ _) | (with_reducible refine bstep (by with_reducible assumption) ?_) | (with_reducible refine Below.alloc ?_ ?_ _) | (with_reducible refine Below.drew ?_) | (with_reducible refine below_drewN ?_ _) | (with_reducible refine Below.setCell ?_ ?_ _) | go_size))⟩
    have k3 : decide (1048576 < unit) = false := decide_eq_false h3
    obtain ⟨q3, q4⟩ := q1 (by omega)
    have q5 := q2 (by omega)
    have d3 : decide (1 ≤ c) = true := decide_eq_true q3
    have d4 : decide (c ≤ a) = true := decide_eq_true q5
    have s1 : 1 ≤ unit := by omega
    have s2 : unit ≤ 1048576 := by omega
    have s3 : 0 ≤ more := by omega
    have s4 : more ≤ 1048576 := by omega
    clear h1 h2 h3 hu q1 q2 bu bm n0 n1 r1 r2 q3 q4 q5
    go_enter Try.func3, Try.ntmps3
    go_wp2_with (first | (go_at_call 14; ((with_reducible refine (alive12_any _).mono ?_); rintro e w1 ⟨rfl, hb1⟩; obtain ⟨hc1, hf1⟩ := bcell hb1; have hz1 : w.heap.size < w1.heap.size := (by have := hb1.size; rw [World.size_alloc] at this; omega))) | (go_at_call 15; ((with_reducible refine (E.out _).mono ?_); rintro e w2 ⟨rfl, hb2⟩; obtain ⟨hc2, hf2⟩ := bcell hb2; have hz2 : w.heap.size < w2.heap.size := (by have := hb2.size; omega))) | (go_at_call 15; ((with_reducible refine (E9.out _).mono ?_); rintro e w3 ⟨rfl, hb3⟩)) | (go_at_call 16; ((with_reducible refine (L.out _).mono ?_); rintro e w3 ⟨rfl, hb3⟩)))
    go_returns
    exact ⟨by simp, by (repeat' (first | (with_reducible exact Below.refl _ _) | (with_reducible refine bstep (by with_reducible assumption) ?_) | (with_reducible refine Below.alloc ?_ ?_ _) | (with_reducible refine Below.drew ?_) | (with_reducible refine below_drewN ?_ _) | (with_reducible refine Below.setCell ?_ ?_ _) | go_size))⟩
theorem rateUnits_walk (xs : List Int) (hl : xs.length = 12) (_ : ∀ x ∈ xs, I64 x) (unit : Int) (bu : I64 unit) (more : Int) (bm : I64 more) (w : World) :
    Calls Try.prog 3 #[.agg (xs.map (Value.int .i64)).toArray, .int .i64 unit, .int .i64 more] w fun e w' => e = .returned (.bool true) ∧ Below w.heap.size w w' := by
  obtain ⟨x0, y0, z0, x1, y1, z1, x2, y2, z2, x3, y3, z3, rfl⟩ := list12 hl
  exact rateUnits_flat x0 y0 z0 x1 y1 z1 x2 y2 z2 x3 y3 z3 unit more bu bm w
end Go.Proofs.Ytbmemnbfdbpdkaa
