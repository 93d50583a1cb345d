/- The law on weave with all sides alike, walked: for all numbers of 64 bits it answers true. -/
import Derived.Test.YtoalihdempcbjaaAlive13
namespace Go.Proofs.Ytoalihdempcbjaa
open Go.RowKit
set_option maxRecDepth 100000
set_option linter.unusedSimpArgs false
set_option linter.unusedVariables false
set_option maxHeartbeats 2000000 in
theorem even_no (n : Int) (h : n < 1 ∨ 16 < n) (w : World) : Calls Try.prog 11 #[.int .i64 n] w fun e w' => e = .returned (.bool true) ∧ Below w.heap.size w w' := by
  have WN := Lib.hid (fun w => weave_no n n n n (by unfold ok4; omega) w)
  by_cases h1 : n < 1
  · clear h
    go_enter Try.func11, Try.ntmps11
    go_wp2_with (first
      | (go_at_call 21; ((with_reducible refine (alive13_any _).mono ?_); rintro e w1 ⟨rfl, hb1⟩))
      | (go_at_call 22; ((with_reducible refine (WN.out _).mono ?_); rintro e w2 ⟨rfl, hb2⟩)))
    go_returns
    exact ⟨by simp, by (repeat' (first | (with_reducible exact Below.refl _ _) | (with_reducible refine bstep (by with_reducible assumption) ?_) | (with_reducible refine Below.alloc ?_ ?_ _) | (with_reducible refine Below.drew ?_) | (with_reducible refine below_drewN ?_ _) | (with_reducible refine Below.setCell ?_ ?_ _) | go_size))⟩
  · have h2 : 16 < n := by omega
    clear h
    go_enter Try.func11, Try.ntmps11
    go_wp2_with (first
      | (go_at_call 21; ((with_reducible refine (alive13_any _).mono ?_); rintro e w1 ⟨rfl, hb1⟩))
      | (go_at_call 22; ((with_reducible refine (WN.out _).mono ?_); rintro e w2 ⟨rfl, hb2⟩)))
    go_returns
    exact ⟨by simp, by (repeat' (first | (with_reducible exact Below.refl _ _) | (with_reducible refine bstep (by with_reducible assumption) ?_) | (with_reducible refine Below.alloc ?_ ?_ _) | (with_reducible refine Below.drew ?_) | (with_reducible refine below_drewN ?_ _) | (with_reducible refine Below.setCell ?_ ?_ _) | go_size))⟩
set_option maxHeartbeats 2000000 in
theorem even_yes (n : Nat) (h1 : 1 ≤ n) (h2 : n ≤ 16) (w : World) : Calls Try.prog 11 #[.int .i64 (n : Int)] w fun e w' => e = .returned (.bool true) ∧ Below w.heap.size w w' := by
  have hR : (evR n).ok := ⟨⟨h1, h2⟩, ⟨h1, h2⟩, ⟨h1, h2⟩, ⟨h1, h2⟩⟩
  obtain ⟨e1, e2⟩ := even_good n h1 h2
  have WY : Hid (∀ w, Calls Try.prog 22 #[.agg #[.int .i64 (n : Int), .int .i64 (n : Int), .int .i64 (n : Int), .int .i64 (n : Int)]] w fun e w' => ∃ p c q d, e = .returned (.tuple #[.slice p ((n + 1) * (n + 1)) c, .slice q (2 * n * n) d, .bool true]) ∧ Below w.heap.size w w') := by
    refine Lib.hid fun w => (weave_yes (evR n) hR w).mono fun e w' ⟨p, c, q, d, he, hs, ht, hb⟩ => ⟨p, c, q, d, ?_, hb⟩
    rw [← e1, ← e2]; exact he
  obtain ⟨L, hL⟩ : ∃ L, (n + 1) * (n + 1) = L := ⟨_, rfl⟩
  obtain ⟨T, hT⟩ : ∃ T, 2 * n * n = T := ⟨_, rfl⟩
  have hL2 : L ≤ 17 * 17 := by rw [← hL]; exact Nat.mul_le_mul (by omega) (by omega)
  have hT2 : T ≤ 32 * 16 := by rw [← hT]; exact Nat.mul_le_mul (by omega) (by omega)
  have wL : IntKind.i64.wrap (((n : Int) + 1) * ((n : Int) + 1)) = (L : Int) := by rw [show ((n : Int) + 1) * ((n : Int) + 1) = (L : Int) by rw [← hL]; simp]; exact IntWalk.i64_in _ (by omega)
  have wT : IntKind.i64.wrap (2 * (n : Int) * (n : Int)) = (T : Int) := by rw [show 2 * (n : Int) * (n : Int) = (T : Int) by rw [← hT]; simp]; exact IntWalk.i64_in _ (by omega)
  rw [hL, hT] at WY
  have i1 : ¬ (n : Int) < 1 := by omega
  have i2 : ¬ (16 : Int) < (n : Int) := by omega
  clear hR e1 e2 hL hT
  go_enter Try.func11, Try.ntmps11
  go_wp2_with (first
    | (go_at_call 21; ((with_reducible refine (alive13_any _).mono ?_); rintro e w1 ⟨rfl, hb1⟩))
    | (go_at_call 22; ((with_reducible refine (WY.out _).mono ?_); rintro e w2 ⟨p, c, q, d, rfl, hb2⟩)))
  go_returns
  exact ⟨by simp, by (repeat' (first | (with_reducible exact Below.refl _ _) | (with_reducible refine bstep (by with_reducible assumption) ?_) | (with_reducible refine Below.alloc ?_ ?_ _) | (with_reducible refine Below.drew ?_) | (with_reducible refine below_drewN ?_ _) | (with_reducible refine Below.setCell ?_ ?_ _) | go_size))⟩
theorem weaveEven_walk (n : Int) (_ : I64 n) (w : World) : Calls Try.prog 11 #[.int .i64 n] w fun e w' => e = .returned (.bool true) ∧ Below w.heap.size w w' := by
  by_cases h : 1 ≤ n ∧ n ≤ 16
  · obtain ⟨k, rfl⟩ : ∃ k : Nat, n = (k : Int) := ⟨n.toNat, by omega⟩
    exact even_yes k (by omega) (by omega) w
  · exact even_no n (by omega) w
end Go.Proofs.Ytoalihdempcbjaa
