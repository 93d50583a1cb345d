/- What relievoref00.Within answers: the same as vec.Within, for all points and bounds of 64 bits. -/
import Derived.Test.YtoalihdempcbjaaBlk
namespace Go.Proofs.Ytoalihdempcbjaa
open Go.RowKit
set_option maxRecDepth 100000
set_option linter.unusedSimpArgs false
set_option linter.unusedVariables false
theorem in0_is (x y z m : Int) : (decide (wrap64 (-m) ≤ x) && decide (x ≤ m) && decide (wrap64 (-m) ≤ y) && decide (y ≤ m) && decide (wrap64 (-m) ≤ z) && decide (z ≤ m)) = inB x y z m := by
  rw [Bool.eq_iff_iff]
  simp only [inB, Bool.and_eq_true, decide_eq_true_eq, le_mn, mx_le]
  omega
set_option maxHeartbeats 4000000 in
theorem within0_any (x y z m : Int) (w : World) :
    Calls Try.prog 31 #[V3 x y z, .int .i64 m] w fun e w' => e = .returned (.bool (inB x y z m)) ∧ Below w.heap.size w w' := by
  rw [← in0_is]
  obtain ⟨b0, h0⟩ : ∃ b, decide (wrap64 (-m) ≤ x) = b := ⟨_, rfl⟩
  obtain ⟨b1, h1⟩ : ∃ b, decide (x ≤ m) = b := ⟨_, rfl⟩
  obtain ⟨b2, h2⟩ : ∃ b, decide (wrap64 (-m) ≤ y) = b := ⟨_, rfl⟩
  obtain ⟨b3, h3⟩ : ∃ b, decide (y ≤ m) = b := ⟨_, rfl⟩
  obtain ⟨b4, h4⟩ : ∃ b, decide (wrap64 (-m) ≤ z) = b := ⟨_, rfl⟩
  obtain ⟨b5, h5⟩ : ∃ b, decide (z ≤ m) = b := ⟨_, rfl⟩
  rw [h0, h1, h2, h3, h4, h5]
  cases b0
  · go_enter Try.func31, Try.ntmps31
    go_wp2_with fail
    go_returns
    exact ⟨by simp, by go_grown⟩
  cases b1
  · go_enter Try.func31, Try.ntmps31
    go_wp2_with fail
    go_returns
    exact ⟨by simp, by go_grown⟩
  cases b2
  · go_enter Try.func31, Try.ntmps31
    go_wp2_with fail
    go_returns
    exact ⟨by simp, by go_grown⟩
  cases b3
  · go_enter Try.func31, Try.ntmps31
    go_wp2_with fail
    go_returns
    exact ⟨by simp, by go_grown⟩
  cases b4
  · go_enter Try.func31, Try.ntmps31
    go_wp2_with fail
    go_returns
    exact ⟨by simp, by go_grown⟩
  cases b5
  · go_enter Try.func31, Try.ntmps31
    go_wp2_with fail
    go_returns
    exact ⟨by simp, by go_grown⟩
  · go_enter Try.func31, Try.ntmps31
    go_wp2_with fail
    go_returns
    exact ⟨by simp, by go_grown⟩
end Go.Proofs.Ytoalihdempcbjaa
