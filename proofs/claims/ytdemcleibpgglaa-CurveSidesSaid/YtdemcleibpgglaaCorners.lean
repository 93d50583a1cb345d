/- The law on a patch's corners, walked: for all points and numbers of 64 bits it answers true. -/
import Derived.Test.YtdemcleibpgglaaPoint
import Derived.Test.YtdemcleibpgglaaArr
namespace Go.Proofs.Ytdemcleibpgglaa
open Go.RowKit
set_option maxRecDepth 100000
set_option linter.unusedSimpArgs false
set_option linter.unusedVariables false
theorem sums_only {X Wt : Nat → Int} (c n k : Nat) (hk : k < n) (h : ∀ j, j < n → j ≠ k → Wt j = 0) : ∀ m, m ≤ n → sums X Wt c m = if k < m then X (k * 3 + c) * Wt k else 0
  | 0, _ => by simp [sums]
  | m + 1, hm => by
    have e := sums_only (X := X) c n k hk h m (by omega)
    simp only [sums]
    rw [e]
    by_cases h1 : m = k
    · subst h1; simp
    · rw [h m (by omega) h1, Int.mul_zero, Int.add_zero]
      by_cases h2 : k < m
      · rw [if_pos h2, if_pos (by omega)]
      · rw [if_neg h2, if_neg (by omega)]
theorem wts_0 (n : Int) (k : Nat) (hk : k ≠ 0) : wts 0 n k = 0 := by
  match k with
  | 0 => omega
  | 1 => simp [wts, wt1]
  | 2 => simp [wts, wt2]
  | k + 3 => simp [wts, wt3]
theorem wts_n (n : Int) (k : Nat) (hk : k < 3) : wts n n k = 0 := by
  match k, hk with
  | 0, _ => simp [wts, wt0]
  | 1, _ => simp [wts, wt1]
  | 2, _ => simp [wts, wt2]
theorem ptv_first (X : Nat → Int) (c : Nat) {n : Int} (h : 1 ≤ n) : ptv X c 0 n 0 n = X c := by
  have e := sums_only (X := X) (Wt := wtp 0 n 0 n) c 16 0 (by omega) (fun j hj h0 => by
    unfold wtp
    by_cases h1 : j % 4 = 0
    · rw [wts_0 n (j / 4) (by omega), Int.mul_zero]
    · rw [wts_0 n (j % 4) h1, Int.zero_mul]) 16 (by omega)
  unfold ptv
  rw [e, if_pos (by omega), show wtp 0 n 0 n 0 = n * n * n * (n * n * n) by simp [wtp, wts, wt0], Nat.zero_mul, Nat.zero_add]
  have p := Int.mul_le_mul (cube_pos h) (cube_pos h) (by omega) (by have := cube_pos h; omega)
  exact rnd_mul _ _ (by omega)
theorem ptv_last (X : Nat → Int) (c : Nat) {n : Int} (h : 1 ≤ n) : ptv X c n n n n = X (45 + c) := by
  have e := sums_only (X := X) (Wt := wtp n n n n) c 16 15 (by omega) (fun j hj h0 => by
    unfold wtp
    by_cases h1 : j % 4 = 3
    · rw [wts_n n (j / 4) (by omega), Int.mul_zero]
    · rw [wts_n n (j % 4) (by omega), Int.zero_mul]) 16 (by omega)
  unfold ptv
  rw [e, if_pos (by omega), show wtp n n n n 15 = n * n * n * (n * n * n) by simp [wtp, wts, wt3]]
  have p := Int.mul_le_mul (cube_pos h) (cube_pos h) (by omega) (by have := cube_pos h; omega)
  exact rnd_mul _ _ (by omega)
/-- The two corners' points. -/
theorem corner_facts (cs : Array Value) (X : Nat → Int) (hX : Is48 cs X) (n : Int) : ∃ (ok is : Bool) (p q r p2 q2 r2 : Int),
    (∀ w, Calls Try.prog 25 #[.agg cs, .int .i64 0, .int .i64 n, .int .i64 0, .int .i64 n] w fun e w' => e = .returned (.tuple #[V3 p q r, .bool ok]) ∧ Below w.heap.size w w') ∧
    (∀ w, Calls Try.prog 25 #[.agg cs, .int .i64 n, .int .i64 n, .int .i64 n, .int .i64 n] w fun e w' => e = .returned (.tuple #[V3 p2 q2 r2, .bool is]) ∧ Below w.heap.size w w') ∧
    (ok = true → p = X 0 ∧ q = X 1 ∧ r = X 2) ∧ (is = true → p2 = X 45 ∧ q2 = X 46 ∧ r2 = X 47) := by
  refine ⟨_, _, _, _, _, _, _, _, point_is cs X hX 0 n 0 n _ _ _ _ rfl rfl rfl rfl, point_is cs X hX n n n n _ _ _ _ rfl rfl rfl rfl, fun h => ?_, fun h => ?_⟩
  · rw [h]
    simp only [okPt, Bool.and_eq_true, there_iff] at h
    simp only [ptF, if_true]
    exact ⟨ptv_first X 0 (by omega), ptv_first X 1 (by omega), ptv_first X 2 (by omega)⟩
  · rw [h]
    simp only [okPt, Bool.and_eq_true, there_iff] at h
    simp only [ptF, if_true]
    exact ⟨ptv_last X 0 (by omega), ptv_last X 1 (by omega), ptv_last X 2 (by omega)⟩
def CoRel (g B W1 : Nat) (cs : Array Value) (w : World) (k : Nat) (i : Value) (wr : World) : Prop :=
  ((k = 4 ∧ i = .int .i64 0 ∧ 0 ≤ g) ∨ (k = 3 ∧ i = .int .i64 1 ∧ 1 ≤ g) ∨ (k = 2 ∧ i = .int .i64 2 ∧ 2 ≤ g) ∨ (k = 1 ∧ i = .int .i64 3 ∧ 3 ≤ g) ∨ (k = 0 ∧ i = .int .i64 4 ∧ 4 ≤ g)) ∧
  (∀ o, wr.cell? ⟨B, o, none⟩ = cs[o]?) ∧ (∀ o, wr.cell? ⟨W1, o, none⟩ = (C4 0 3 15 12)[o]?) ∧ Below B w wr
set_option maxHeartbeats 8000000 in
theorem corners_flat (cs : Array Value) (X : Nat → Int) (hX : Is48 cs X) (n : Int) (w : World) :
    Calls Try.prog 12 #[.agg cs, .int .i64 n] w fun e w' => e = .returned (.bool true) ∧ Below w.heap.size w w' := by
  obtain ⟨ok, is, p, q, r, p2, q2, r2, K, L, H1, H2⟩ := corner_facts cs X hX n
  have K := Lib.hid K
  have L := Lib.hid L
  have H1 := Lib.hid H1
  have H2 := Lib.hid H2
  have R0 := Lib.hid (row_0 cs X hX)
  have R1 := Lib.hid (row_1 cs X hX)
  have R2 := Lib.hid (row_2 cs X hX)
  have R3 := Lib.hid (row_3 cs X hX)
  obtain ⟨hs48, hx⟩ := hX
  have HX := Lib.hid hx
  have hs0 : 0 < cs.size := by omega
  clear hx
  go_enter Try.func12, Try.ntmps12
  go_wp2_with (go_at_call 16; ((with_reducible refine (alive11_any _).mono ?_); rintro e w1 ⟨rfl, hb1⟩; have A1 := Lib.hid (blk_later hs0 hb1 (by (repeat (first | (with_reducible assumption) | (focus ((with_reducible refine new_at ?_ _ _); (repeat (first | (with_reducible rfl) | (with_reducible refine sz1 ?_))); done)) | (with_reducible refine blk_alloc hs0 _ ?_) | (with_reducible refine blk_drew ?_)))) : ∀ o, w1.cell? ⟨w.heap.size, o, none⟩ = cs[o]?); have hs1 : w.heap.size < w1.heap.size := blk_lt hs0 A1.out))
  go_loopg [6] 4 (fun k i wr => CoRel 4 w.heap.size w1.heap.size cs w k i wr)
  case atStart => exact ⟨.inl ⟨rfl, rfl, by omega⟩, blk_alloc hs0 _ A1.out, by (repeat (first | (with_reducible assumption) | (focus ((with_reducible refine new_at ?_ _ _); (repeat (first | (with_reducible rfl) | (with_reducible refine sz1 ?_))); done)) | (with_reducible refine blk_alloc (by simp) _ ?_) | (with_reducible refine blk_drew ?_))), by (repeat' (first | (with_reducible exact Below.refl _ _) | (with_reducible refine bstep (by with_reducible assumption) ?_) | (with_reducible refine Below.alloc ?_ ?_ _) | (with_reducible refine Below.drew ?_) | (with_reducible refine below_drewN ?_ _) | (with_reducible refine Below.setCell ?_ ?_ _) | go_size))⟩
  case round =>
    obtain ⟨hk, hp, ht, hB⟩ := hrel
    have HB := Lib.hid hB
    have P0 := Lib.hid hp
    have l0 : w.heap.size < wr.heap.size := blk_lt hs0 hp
    have l1 : w1.heap.size < wr.heap.size := blk_lt (by simp) ht
    clear hB A1 hp
    rcases hk with ⟨rfl, rfl, hg⟩ | ⟨rfl, rfl, hg⟩ | ⟨rfl, rfl, hg⟩ | ⟨rfl, rfl, hg⟩ | ⟨rfl, rfl, hg⟩
    · go_wp2_with (first
        | (((refine (load_arr rfl _ rfl w.heap.size rfl cs hs48 ?_ ?_)); (focus ((repeat (first | (with_reducible exact Hid.out (by assumption)) | (with_reducible refine blk_alloc hs0 _ ?_) | (with_reducible refine blk_drew ?_)))))))
        | (go_at_call 30; ((with_reducible refine (R0.out _).mono ?_); rintro e v1 ⟨rfl, gb1⟩; have P1 := Lib.hid (blk_later hs0 gb1 P0.out); have T1 := blk_later (by simp) gb1 ht; have t1 : w.heap.size < v1.heap.size := blk_lt hs0 P1.out; clear P0))
        | (go_at_call 30; ((with_reducible refine (R1.out _).mono ?_); rintro e v2 ⟨rfl, gb2⟩; have P2 := Lib.hid (blk_later hs0 gb2 (blk_alloc hs0 _ P1.out)); have T2 := blk_later (by simp) gb2 (blk_alloc (by simp) _ T1); have Q2 := blk_later (by simp) gb2 (new_at rfl _ _); have t2 : w.heap.size < v2.heap.size := blk_lt hs0 P2.out; have t3 : v1.heap.size < v2.heap.size := blk_lt (by simp) Q2; have t4 : w1.heap.size < v2.heap.size := blk_lt (by simp) T2; clear P1)))
      have Q3 := blk_alloc (by simp) (.cells (C12 (X 9) (X 10) (X 11) (X 21) (X 22) (X 23) (X 33) (X 34) (X 35) (X 45) (X 46) (X 47)) 24) Q2
      have T3 := blk_alloc (by simp) (.cells (C12 (X 9) (X 10) (X 11) (X 21) (X 22) (X 23) (X 33) (X 34) (X 35) (X 45) (X 46) (X 47)) 24) T2
      have P3 := Lib.hid (blk_alloc hs0 (.cells (C12 (X 9) (X 10) (X 11) (X 21) (X 22) (X 23) (X 33) (X 34) (X 35) (X 45) (X 46) (X 47)) 24) P2.out)
      have B3 : ∀ o, (v2.alloc (.cells (C12 (X 9) (X 10) (X 11) (X 21) (X 22) (X 23) (X 33) (X 34) (X 35) (X 45) (X 46) (X 47)) 24)).cell? ⟨v2.heap.size, o, none⟩ = (C12 (X 9) (X 10) (X 11) (X 21) (X 22) (X 23) (X 33) (X 34) (X 35) (X 45) (X 46) (X 47))[o]? := new_at rfl _ _
      have y0 := (P3.out 0).trans (HX.out 0 (by omega))
      have y1 := (P3.out 1).trans (HX.out 1 (by omega))
      have y2 := (P3.out 2).trans (HX.out 2 (by omega))
      go_region_held3 (fun w' => (∀ o, w'.cell? ⟨v1.heap.size, o, none⟩ = (C12 (X 0) (X 1) (X 2) (X 3) (X 4) (X 5) (X 6) (X 7) (X 8) (X 9) (X 10) (X 11))[o]?) ∧ (∀ o, w'.cell? ⟨v2.heap.size, o, none⟩ = (C12 (X 9) (X 10) (X 11) (X 21) (X 22) (X 23) (X 33) (X 34) (X 35) (X 45) (X 46) (X 47))[o]?) ∧ (∀ o, w'.cell? ⟨w1.heap.size, o, none⟩ = (C4 0 3 15 12)[o]?) ∧ w'.cell? ⟨w.heap.size, 0, none⟩ = some (.int .i64 (X 0)) ∧ w'.cell? ⟨w.heap.size, 1, none⟩ = some (.int .i64 (X 1)) ∧ w'.cell? ⟨w.heap.size, 2, none⟩ = some (.int .i64 (X 2)))
        (((first | (go_split_ands; skip) | skip); (repeat' apply And.intro) <;> (first | assumption | (with_reducible exact blk_drew (by assumption)) | (with_reducible exact cell_drew (by assumption)))))
        (fail)
      all_goals
        go_wp2_with fail
        go_roundg 3
        case measure => omega
        case rel =>
          have HB' := HB.out
          exact ⟨.inr (.inl ⟨rfl, by simp, by omega⟩), by first | exact P3.out | exact blk_drew P3.out, by first | exact T3 | exact blk_drew T3, by (repeat' (first | (with_reducible exact Below.refl _ _) | (with_reducible refine bstep (by with_reducible assumption) ?_) | (with_reducible refine Below.alloc ?_ ?_ _) | (with_reducible refine Below.drew ?_) | (with_reducible refine below_drewN ?_ _) | (with_reducible refine Below.setCell ?_ ?_ _) | go_size))⟩
    · go_wp2_with (first
        | (((refine (load_arr rfl _ rfl w.heap.size rfl cs hs48 ?_ ?_)); (focus ((repeat (first | (with_reducible exact Hid.out (by assumption)) | (with_reducible refine blk_alloc hs0 _ ?_) | (with_reducible refine blk_drew ?_)))))))
        | (go_at_call 30; ((with_reducible refine (R1.out _).mono ?_); rintro e v1 ⟨rfl, gb1⟩; have P1 := Lib.hid (blk_later hs0 gb1 P0.out); have T1 := blk_later (by simp) gb1 ht; have t1 : w.heap.size < v1.heap.size := blk_lt hs0 P1.out; clear P0))
        | (go_at_call 30; ((with_reducible refine (R2.out _).mono ?_); rintro e v2 ⟨rfl, gb2⟩; have P2 := Lib.hid (blk_later hs0 gb2 (blk_alloc hs0 _ P1.out)); have T2 := blk_later (by simp) gb2 (blk_alloc (by simp) _ T1); have Q2 := blk_later (by simp) gb2 (new_at rfl _ _); have t2 : w.heap.size < v2.heap.size := blk_lt hs0 P2.out; have t3 : v1.heap.size < v2.heap.size := blk_lt (by simp) Q2; have t4 : w1.heap.size < v2.heap.size := blk_lt (by simp) T2; clear P1)))
      have Q3 := blk_alloc (by simp) (.cells (C12 (X 45) (X 46) (X 47) (X 42) (X 43) (X 44) (X 39) (X 40) (X 41) (X 36) (X 37) (X 38)) 24) Q2
      have T3 := blk_alloc (by simp) (.cells (C12 (X 45) (X 46) (X 47) (X 42) (X 43) (X 44) (X 39) (X 40) (X 41) (X 36) (X 37) (X 38)) 24) T2
      have P3 := Lib.hid (blk_alloc hs0 (.cells (C12 (X 45) (X 46) (X 47) (X 42) (X 43) (X 44) (X 39) (X 40) (X 41) (X 36) (X 37) (X 38)) 24) P2.out)
      have B3 : ∀ o, (v2.alloc (.cells (C12 (X 45) (X 46) (X 47) (X 42) (X 43) (X 44) (X 39) (X 40) (X 41) (X 36) (X 37) (X 38)) 24)).cell? ⟨v2.heap.size, o, none⟩ = (C12 (X 45) (X 46) (X 47) (X 42) (X 43) (X 44) (X 39) (X 40) (X 41) (X 36) (X 37) (X 38))[o]? := new_at rfl _ _
      have y0 := (P3.out 9).trans (HX.out 9 (by omega))
      have y1 := (P3.out 10).trans (HX.out 10 (by omega))
      have y2 := (P3.out 11).trans (HX.out 11 (by omega))
      go_region_held3 (fun w' => (∀ o, w'.cell? ⟨v1.heap.size, o, none⟩ = (C12 (X 9) (X 10) (X 11) (X 21) (X 22) (X 23) (X 33) (X 34) (X 35) (X 45) (X 46) (X 47))[o]?) ∧ (∀ o, w'.cell? ⟨v2.heap.size, o, none⟩ = (C12 (X 45) (X 46) (X 47) (X 42) (X 43) (X 44) (X 39) (X 40) (X 41) (X 36) (X 37) (X 38))[o]?) ∧ (∀ o, w'.cell? ⟨w1.heap.size, o, none⟩ = (C4 0 3 15 12)[o]?) ∧ w'.cell? ⟨w.heap.size, 9, none⟩ = some (.int .i64 (X 9)) ∧ w'.cell? ⟨w.heap.size, 10, none⟩ = some (.int .i64 (X 10)) ∧ w'.cell? ⟨w.heap.size, 11, none⟩ = some (.int .i64 (X 11)))
        (((first | (go_split_ands; skip) | skip); (repeat' apply And.intro) <;> (first | assumption | (with_reducible exact blk_drew (by assumption)) | (with_reducible exact cell_drew (by assumption)))))
        (fail)
      all_goals
        go_wp2_with fail
        go_roundg 2
        case measure => omega
        case rel =>
          have HB' := HB.out
          exact ⟨.inr (.inr (.inl ⟨rfl, by simp, by omega⟩)), by first | exact P3.out | exact blk_drew P3.out, by first | exact T3 | exact blk_drew T3, by (repeat' (first | (with_reducible exact Below.refl _ _) | (with_reducible refine bstep (by with_reducible assumption) ?_) | (with_reducible refine Below.alloc ?_ ?_ _) | (with_reducible refine Below.drew ?_) | (with_reducible refine below_drewN ?_ _) | (with_reducible refine Below.setCell ?_ ?_ _) | go_size))⟩
    · go_wp2_with (first
        | (((refine (load_arr rfl _ rfl w.heap.size rfl cs hs48 ?_ ?_)); (focus ((repeat (first | (with_reducible exact Hid.out (by assumption)) | (with_reducible refine blk_alloc hs0 _ ?_) | (with_reducible refine blk_drew ?_)))))))
        | (go_at_call 30; ((with_reducible refine (R2.out _).mono ?_); rintro e v1 ⟨rfl, gb1⟩; have P1 := Lib.hid (blk_later hs0 gb1 P0.out); have T1 := blk_later (by simp) gb1 ht; have t1 : w.heap.size < v1.heap.size := blk_lt hs0 P1.out; clear P0))
        | (go_at_call 30; ((with_reducible refine (R3.out _).mono ?_); rintro e v2 ⟨rfl, gb2⟩; have P2 := Lib.hid (blk_later hs0 gb2 (blk_alloc hs0 _ P1.out)); have T2 := blk_later (by simp) gb2 (blk_alloc (by simp) _ T1); have Q2 := blk_later (by simp) gb2 (new_at rfl _ _); have t2 : w.heap.size < v2.heap.size := blk_lt hs0 P2.out; have t3 : v1.heap.size < v2.heap.size := blk_lt (by simp) Q2; have t4 : w1.heap.size < v2.heap.size := blk_lt (by simp) T2; clear P1)))
      have Q3 := blk_alloc (by simp) (.cells (C12 (X 36) (X 37) (X 38) (X 24) (X 25) (X 26) (X 12) (X 13) (X 14) (X 0) (X 1) (X 2)) 24) Q2
      have T3 := blk_alloc (by simp) (.cells (C12 (X 36) (X 37) (X 38) (X 24) (X 25) (X 26) (X 12) (X 13) (X 14) (X 0) (X 1) (X 2)) 24) T2
      have P3 := Lib.hid (blk_alloc hs0 (.cells (C12 (X 36) (X 37) (X 38) (X 24) (X 25) (X 26) (X 12) (X 13) (X 14) (X 0) (X 1) (X 2)) 24) P2.out)
      have B3 : ∀ o, (v2.alloc (.cells (C12 (X 36) (X 37) (X 38) (X 24) (X 25) (X 26) (X 12) (X 13) (X 14) (X 0) (X 1) (X 2)) 24)).cell? ⟨v2.heap.size, o, none⟩ = (C12 (X 36) (X 37) (X 38) (X 24) (X 25) (X 26) (X 12) (X 13) (X 14) (X 0) (X 1) (X 2))[o]? := new_at rfl _ _
      have y0 := (P3.out 45).trans (HX.out 45 (by omega))
      have y1 := (P3.out 46).trans (HX.out 46 (by omega))
      have y2 := (P3.out 47).trans (HX.out 47 (by omega))
      go_region_held3 (fun w' => (∀ o, w'.cell? ⟨v1.heap.size, o, none⟩ = (C12 (X 45) (X 46) (X 47) (X 42) (X 43) (X 44) (X 39) (X 40) (X 41) (X 36) (X 37) (X 38))[o]?) ∧ (∀ o, w'.cell? ⟨v2.heap.size, o, none⟩ = (C12 (X 36) (X 37) (X 38) (X 24) (X 25) (X 26) (X 12) (X 13) (X 14) (X 0) (X 1) (X 2))[o]?) ∧ (∀ o, w'.cell? ⟨w1.heap.size, o, none⟩ = (C4 0 3 15 12)[o]?) ∧ w'.cell? ⟨w.heap.size, 45, none⟩ = some (.int .i64 (X 45)) ∧ w'.cell? ⟨w.heap.size, 46, none⟩ = some (.int .i64 (X 46)) ∧ w'.cell? ⟨w.heap.size, 47, none⟩ = some (.int .i64 (X 47)))
        (((first | (go_split_ands; skip) | skip); (repeat' apply And.intro) <;> (first | assumption | (with_reducible exact blk_drew (by assumption)) | (with_reducible exact cell_drew (by assumption)))))
        (fail)
      all_goals
        go_wp2_with fail
        go_roundg 1
        case measure => omega
        case rel =>
          have HB' := HB.out
          exact ⟨.inr (.inr (.inr (.inl ⟨rfl, by simp, by omega⟩))), by first | exact P3.out | exact blk_drew P3.out, by first | exact T3 | exact blk_drew T3, by (repeat' (first | (with_reducible exact Below.refl _ _) | (with_reducible refine bstep (by with_reducible assumption) ?_) | (with_reducible refine Below.alloc ?_ ?_ _) | (with_reducible refine Below.drew ?_) | (with_reducible refine below_drewN ?_ _) | (with_reducible refine Below.setCell ?_ ?_ _) | go_size))⟩
    · go_wp2_with (first
        | (((refine (load_arr rfl _ rfl w.heap.size rfl cs hs48 ?_ ?_)); (focus ((repeat (first | (with_reducible exact Hid.out (by assumption)) | (with_reducible refine blk_alloc hs0 _ ?_) | (with_reducible refine blk_drew ?_)))))))
        | (go_at_call 30; ((with_reducible refine (R3.out _).mono ?_); rintro e v1 ⟨rfl, gb1⟩; have P1 := Lib.hid (blk_later hs0 gb1 P0.out); have T1 := blk_later (by simp) gb1 ht; have t1 : w.heap.size < v1.heap.size := blk_lt hs0 P1.out; clear P0))
        | (go_at_call 30; ((with_reducible refine (R0.out _).mono ?_); rintro e v2 ⟨rfl, gb2⟩; have P2 := Lib.hid (blk_later hs0 gb2 (blk_alloc hs0 _ P1.out)); have T2 := blk_later (by simp) gb2 (blk_alloc (by simp) _ T1); have Q2 := blk_later (by simp) gb2 (new_at rfl _ _); have t2 : w.heap.size < v2.heap.size := blk_lt hs0 P2.out; have t3 : v1.heap.size < v2.heap.size := blk_lt (by simp) Q2; have t4 : w1.heap.size < v2.heap.size := blk_lt (by simp) T2; clear P1)))
      have Q3 := blk_alloc (by simp) (.cells (C12 (X 0) (X 1) (X 2) (X 3) (X 4) (X 5) (X 6) (X 7) (X 8) (X 9) (X 10) (X 11)) 24) Q2
      have T3 := blk_alloc (by simp) (.cells (C12 (X 0) (X 1) (X 2) (X 3) (X 4) (X 5) (X 6) (X 7) (X 8) (X 9) (X 10) (X 11)) 24) T2
      have P3 := Lib.hid (blk_alloc hs0 (.cells (C12 (X 0) (X 1) (X 2) (X 3) (X 4) (X 5) (X 6) (X 7) (X 8) (X 9) (X 10) (X 11)) 24) P2.out)
      have B3 : ∀ o, (v2.alloc (.cells (C12 (X 0) (X 1) (X 2) (X 3) (X 4) (X 5) (X 6) (X 7) (X 8) (X 9) (X 10) (X 11)) 24)).cell? ⟨v2.heap.size, o, none⟩ = (C12 (X 0) (X 1) (X 2) (X 3) (X 4) (X 5) (X 6) (X 7) (X 8) (X 9) (X 10) (X 11))[o]? := new_at rfl _ _
      have y0 := (P3.out 36).trans (HX.out 36 (by omega))
      have y1 := (P3.out 37).trans (HX.out 37 (by omega))
      have y2 := (P3.out 38).trans (HX.out 38 (by omega))
      go_region_held3 (fun w' => (∀ o, w'.cell? ⟨v1.heap.size, o, none⟩ = (C12 (X 36) (X 37) (X 38) (X 24) (X 25) (X 26) (X 12) (X 13) (X 14) (X 0) (X 1) (X 2))[o]?) ∧ (∀ o, w'.cell? ⟨v2.heap.size, o, none⟩ = (C12 (X 0) (X 1) (X 2) (X 3) (X 4) (X 5) (X 6) (X 7) (X 8) (X 9) (X 10) (X 11))[o]?) ∧ (∀ o, w'.cell? ⟨w1.heap.size, o, none⟩ = (C4 0 3 15 12)[o]?) ∧ w'.cell? ⟨w.heap.size, 36, none⟩ = some (.int .i64 (X 36)) ∧ w'.cell? ⟨w.heap.size, 37, none⟩ = some (.int .i64 (X 37)) ∧ w'.cell? ⟨w.heap.size, 38, none⟩ = some (.int .i64 (X 38)))
        (((first | (go_split_ands; skip) | skip); (repeat' apply And.intro) <;> (first | assumption | (with_reducible exact blk_drew (by assumption)) | (with_reducible exact cell_drew (by assumption)))))
        (fail)
      all_goals
        go_wp2_with fail
        go_roundg 0
        case measure => omega
        case rel =>
          have HB' := HB.out
          exact ⟨.inr (.inr (.inr (.inr (⟨rfl, by simp, by omega⟩)))), by first | exact P3.out | exact blk_drew P3.out, by first | exact T3 | exact blk_drew T3, by (repeat' (first | (with_reducible exact Below.refl _ _) | (with_reducible refine bstep (by with_reducible assumption) ?_) | (with_reducible refine Below.alloc ?_ ?_ _) | (with_reducible refine Below.drew ?_) | (with_reducible refine below_drewN ?_ _) | (with_reducible refine Below.setCell ?_ ?_ _) | go_size))⟩
    · go_wp2_with (first
        | (((refine (load_arr rfl _ rfl w.heap.size rfl cs hs48 ?_ ?_)); (focus ((repeat (first | (with_reducible exact Hid.out (by assumption)) | (with_reducible refine blk_alloc hs0 _ ?_) | (with_reducible refine blk_drew ?_)))))))
        | (go_at_call 25; ((with_reducible refine (K.out _).mono ?_); rintro e v1 ⟨rfl, gb1⟩; have P1 := Lib.hid (blk_later hs0 gb1 P0.out); have t1 : w.heap.size < v1.heap.size := blk_lt hs0 P1.out; clear P0))
        | (go_at_call 25; ((with_reducible refine (L.out _).mono ?_); rintro e v2 ⟨rfl, gb2⟩; have P2 := Lib.hid (blk_later hs0 gb2 (blk_alloc hs0 _ P1.out)); have Q2 := blk_later (by simp) gb2 (new_at rfl _ _); have t2 : w.heap.size < v2.heap.size := blk_lt hs0 P2.out; have t3 : v1.heap.size < v2.heap.size := blk_lt (by simp) Q2; have y0 := (P2.out 0).trans (HX.out 0 (by omega)); have y1 := (P2.out 1).trans (HX.out 1 (by omega)); have y2 := (P2.out 2).trans (HX.out 2 (by omega)); have y3 := (P2.out 45).trans (HX.out 45 (by omega)); have y4 := (P2.out 46).trans (HX.out 46 (by omega)); have y5 := (P2.out 47).trans (HX.out 47 (by omega)); clear P1)))
      all_goals
        have HB' := HB.out
        first | (have j1 := H1.out (by assumption)) | skip
        first | (have j2 := H2.out (by assumption)) | skip
        first | (exfalso; omega) | (go_returns; exact ⟨by first | (simp; done) | (simp; omega), by (repeat' (first | (with_reducible exact Below.refl _ _) | (with_reducible refine bstep (by with_reducible assumption) ?_) | (with_reducible refine Below.alloc ?_ ?_ _) | (with_reducible refine Below.drew ?_) | (with_reducible refine below_drewN ?_ _) | (with_reducible refine Below.setCell ?_ ?_ _) | go_size))⟩)
theorem curveCorners_walk (xs : List Int) (hl : xs.length = 48) (_ : ∀ x ∈ xs, I64 x) (n : Int) (hn : I64 n) (w : World) :
    Calls Try.prog 12 #[.agg (xs.map (Value.int .i64)).toArray, .int .i64 n] w fun e w' => e = .returned (.bool true) ∧ Below w.heap.size w w' :=
  corners_flat _ _ (is48_list hl) n w
end Go.Proofs.Ytdemcleibpgglaa
