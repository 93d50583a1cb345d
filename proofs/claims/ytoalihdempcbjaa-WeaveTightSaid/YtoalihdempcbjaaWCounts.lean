/- The law on weave's counts, walked: for all rates of 64 bits it answers true. -/
import Derived.Test.YtoalihdempcbjaaAlive13
namespace Go.Proofs.Ytoalihdempcbjaa
open Go.RowKit
set_option maxRecDepth 100000
set_option linter.unusedSimpArgs false
set_option linter.unusedVariables false
set_option maxHeartbeats 2000000 in
theorem counts_no (a b c d : Int) (h : ¬ ok4 a b c d) (w : World) : Calls Try.prog 9 #[.agg #[.int .i64 a, .int .i64 b, .int .i64 c, .int .i64 d]] w fun e w' => e = .returned (.bool true) ∧ Below w.heap.size w w' := by
  have WN := Lib.hid (fun w => weave_no a b c d h w)
  clear h
  go_enter Try.func9, Try.ntmps9
  go_wp2_with (first
    | (go_at_call 21; ((with_reducible refine (alive13_any _).mono ?_); rintro e w1 ⟨rfl, hb1⟩; have C1 : ∀ o, w1.cell? ⟨w.heap.size, o, none⟩ = (#[.int .i64 a, .int .i64 b, .int .i64 c, .int .i64 d] : Array Value)[o]? := blk_later (by simp) hb1 (by (repeat (first | (with_reducible assumption) | (focus ((with_reducible refine new_at ?_ _ _); (repeat (first | (with_reducible rfl) | (with_reducible refine sz1 ?_))); done)) | (with_reducible refine blk_alloc (by simp) _ ?_) | (with_reducible refine blk_drew ?_))))))
    | (go_at_call 22; ((with_reducible refine (WN.out _).mono ?_); rintro e w2 ⟨rfl, hb2⟩)))
  go_returns
  exact ⟨by simp, by (repeat' (first | (with_reducible exact Below.refl _ _) | (with_reducible refine bstep (by with_reducible assumption) ?_) | (with_reducible refine Below.alloc ?_ ?_ _) | (with_reducible refine Below.drew ?_) | (with_reducible refine below_drewN ?_ _) | (with_reducible refine Below.setCell ?_ ?_ _) | go_size))⟩
set_option maxHeartbeats 4000000 in
theorem counts_yes (R : Rt) (hR : R.ok) (w : World) : Calls Try.prog 9 #[.agg #[.int .i64 (R.r0 : Int), .int .i64 (R.r1 : Int), .int .i64 (R.r2 : Int), .int .i64 (R.r3 : Int)]] w fun e w' => e = .returned (.bool true) ∧ Below w.heap.size w w' := by
  obtain ⟨E, g1, g2, g3, g4, g5, g6⟩ := counts_good R hR
  have hm := Rt.ok_m hR
  have WY : Hid (∀ w, Calls Try.prog 22 #[.agg #[.int .i64 (R.r0 : Int), .int .i64 (R.r1 : Int), .int .i64 (R.r2 : Int), .int .i64 (R.r3 : Int)]] w fun e w' => ∃ p c q d, e = .returned (.tuple #[.slice p (spotsN R).length c, .slice q (trisN R).length d, .bool true]) ∧ Below w.heap.size w w') :=
    Lib.hid fun w => (weave_yes R hR w).mono fun e w' ⟨p, c, q, d, he, hs, ht, hb⟩ => ⟨p, c, q, d, he, hb⟩
  obtain ⟨L, hL⟩ : ∃ L, (spotsN R).length = L := ⟨_, rfl⟩
  obtain ⟨T, hT⟩ : ∃ T, (trisN R).length = T := ⟨_, rfl⟩
  obtain ⟨S, hS⟩ : ∃ S, sumR R = S := ⟨_, rfl⟩
  obtain ⟨Q, hQ⟩ : ∃ Q, (R.m - 1) * (R.m - 1) = Q := ⟨_, rfl⟩
  have hmx : mx (mx (mx (R.r0 : Int) (R.r1 : Int)) (R.r2 : Int)) (R.r3 : Int) = (R.m : Int) := by unfold mx Rt.m; omega
  obtain ⟨m, hm'⟩ : ∃ m, R.m = m := ⟨_, rfl⟩
  rw [hL, hT] at WY
  rw [hT, hS] at g1
  rw [hL, hT] at g2
  rw [hL, hS, hQ] at g3
  rw [hT] at g4
  rw [hL] at g5
  rw [hS] at g6
  rw [hm'] at hmx hQ hm
  unfold sumR at hS
  obtain ⟨h0, h1, h2, h3⟩ := hR
  obtain ⟨r0, r1, r2, r3⟩ := R
  simp only at *
  have hQ2 : Q ≤ 15 * 15 := by rw [← hQ]; exact Nat.mul_le_mul (by omega) (by omega)
  have wQ : IntKind.i64.wrap (((m : Int) - 1) * ((m : Int) - 1)) = (Q : Int) := by
    obtain ⟨k, rfl⟩ : ∃ k, m = k + 1 := ⟨m - 1, by omega⟩
    rw [show (((k + 1 : Nat) : Int) - 1) * (((k + 1 : Nat) : Int) - 1) = (Q : Int) by rw [← hQ]; simp]
    exact IntWalk.i64_in _ (by omega)
  have s1 : (3 * (T : Int) + ((r0 : Int) + (r1 : Int) + (r2 : Int) + (r3 : Int))) % 2 = 0 := by omega
  have s2 : (3 * (T : Int) + ((r0 : Int) + (r1 : Int) + (r2 : Int) + (r3 : Int))) / 2 = (E : Int) := by omega
  have s3 : (L : Int) - (E : Int) + (T : Int) = 1 := by omega
  have s4 : (L : Int) = (r0 : Int) + (r1 : Int) + (r2 : Int) + (r3 : Int) + (Q : Int) := by omega
  have HS4 := Lib.hid s4
  have M4 : ∀ w, Sem.run Try.prog (Builtin.max_ #[3, 3, 3, 3] 3 #[.int .i64 (r0 : Int), .int .i64 (r1 : Int), .int .i64 (r2 : Int), .int .i64 (r3 : Int)]) w = .ok (.int .i64 (m : Int)) w := fun w => by rw [← hmx]; exact own_max4 _ _ _ _ _ _ w
  clear hL hT hQ hS hm' s4 g1 g2 g3 hmx
  go_enter Try.func9, Try.ntmps9
  go_wp2_with (first
    | (go_at_call 21; ((with_reducible refine (alive13_any _).mono ?_); rintro e w1 ⟨rfl, hb1⟩; have C1 : ∀ o, w1.cell? ⟨w.heap.size, o, none⟩ = (#[.int .i64 (r0 : Int), .int .i64 (r1 : Int), .int .i64 (r2 : Int), .int .i64 (r3 : Int)] : Array Value)[o]? := blk_later (by simp) hb1 (by (repeat (first | (with_reducible assumption) | (focus ((with_reducible refine new_at ?_ _ _); (repeat (first | (with_reducible rfl) | (with_reducible refine sz1 ?_))); done)) | (with_reducible refine blk_alloc (by simp) _ ?_) | (with_reducible refine blk_drew ?_))))))
    | (go_at_call 22; ((with_reducible refine (WY.out _).mono ?_); rintro e w2 ⟨p, c, q, d, rfl, hb2⟩; have C2 : ∀ o, w2.cell? ⟨w.heap.size, o, none⟩ = (#[.int .i64 (r0 : Int), .int .i64 (r1 : Int), .int .i64 (r2 : Int), .int .i64 (r3 : Int)] : Array Value)[o]? := blk_later (by simp) hb2 C1)))
  have HS5 := HS4.out
  go_returns
  exact ⟨by simp [HS5], by (repeat' (first | (with_reducible exact Below.refl _ _) | (with_reducible refine bstep (by with_reducible assumption) ?_) | (with_reducible refine Below.alloc ?_ ?_ _) | (with_reducible refine Below.drew ?_) | (with_reducible refine below_drewN ?_ _) | (with_reducible refine Below.setCell ?_ ?_ _) | go_size))⟩
theorem ok4_nat {a b c d : Int} (h : ok4 a b c d) : ∃ R : Rt, R.ok ∧ a = (R.r0 : Int) ∧ b = (R.r1 : Int) ∧ c = (R.r2 : Int) ∧ d = (R.r3 : Int) := by
  obtain ⟨h0, h1, h2, h3⟩ := h
  exact ⟨⟨a.toNat, b.toNat, c.toNat, d.toNat⟩, ⟨by simp only; omega, by simp only; omega, by simp only; omega, by simp only; omega⟩, by simp only; omega, by simp only; omega, by simp only; omega, by simp only; omega⟩
theorem weaveCounts_walk (xs : List Int) (hl : xs.length = 4) (_ : ∀ x ∈ xs, I64 x) (w : World) : Calls Try.prog 9 #[.agg (xs.map (Value.int .i64)).toArray] w fun e w' => e = .returned (.bool true) ∧ Below w.heap.size w w' := by
  match xs, hl with
  | [a, b, c, d], _ =>
    by_cases h : ok4 a b c d
    · obtain ⟨R, hR, rfl, rfl, rfl, rfl⟩ := ok4_nat h
      exact counts_yes R hR w
    · exact counts_no a b c d h w
end Go.Proofs.Ytoalihdempcbjaa
