/- What relievoref02.Join, Has, Bound and relievoref00.SameVs answer: contracts. -/
import Derived.Test.YtodgnpggcdjgaaaVBound
import Derived.Test.YtodgnpggcdjgaaaQuiet
namespace Go.Proofs.Ytodgnpggcdjgaaa
open Go.RowKit
set_option maxRecDepth 100000
set_option linter.unusedSimpArgs false
set_option linter.unusedVariables false
theorem rjoin_any (a b c d e f a' b' c' d' e' f' : Int) (w : World) :
    Calls Try.prog 32 #[B6 a b c d e f, B6 a' b' c' d' e' f'] w fun r w' => r = .returned (B6 (mn a a') (mn b b') (mn c c') (mx d d') (mx e e') (mx f f')) ∧ Below w.heap.size w w' := by
  go_enter Try.func32, Try.ntmps32
  go_wp2_with fail
  go_returns
  exact ⟨rfl, by go_grown⟩
theorem has_flat (a b c d e f x y z : Int) : (decide (a ≤ x) && decide (x ≤ d) && decide (b ≤ y) && decide (y ≤ e) && decide (c ≤ z) && decide (z ≤ f)) = hasB a b c d e f x y z := by
  simp only [hasB, btw, Bool.and_assoc]
set_option maxHeartbeats 4000000 in
theorem rhas_any (a b c d e' f x y z : Int) (w : World) : Calls Try.prog 34 #[B6 a b c d e' f, V3 x y z] w fun r w' => r = .returned (.bool (hasB a b c d e' f x y z)) ∧ Below w.heap.size w w' := by
  rw [← has_flat]
  obtain ⟨b0, h0⟩ : ∃ t, decide (a ≤ x) = t := ⟨_, rfl⟩
  obtain ⟨b1, h1⟩ : ∃ t, decide (x ≤ d) = t := ⟨_, rfl⟩
  obtain ⟨b2, h2⟩ : ∃ t, decide (b ≤ y) = t := ⟨_, rfl⟩
  obtain ⟨b3, h3⟩ : ∃ t, decide (y ≤ e') = t := ⟨_, rfl⟩
  obtain ⟨b4, h4⟩ : ∃ t, decide (c ≤ z) = t := ⟨_, rfl⟩
  obtain ⟨b5, h5⟩ : ∃ t, decide (z ≤ f) = t := ⟨_, rfl⟩
  rw [h0, h1, h2, h3, h4, h5]
  cases b0
  · go_enter Try.func34, Try.ntmps34
    go_wp2_with fail
    go_returns
    exact ⟨by simp, by go_grown⟩
  cases b1
  · go_enter Try.func34, Try.ntmps34
    go_wp2_with fail
    go_returns
    exact ⟨by simp, by go_grown⟩
  cases b2
  · go_enter Try.func34, Try.ntmps34
    go_wp2_with fail
    go_returns
    exact ⟨by simp, by go_grown⟩
  cases b3
  · go_enter Try.func34, Try.ntmps34
    go_wp2_with fail
    go_returns
    exact ⟨by simp, by go_grown⟩
  cases b4
  · go_enter Try.func34, Try.ntmps34
    go_wp2_with fail
    go_returns
    exact ⟨by simp, by go_grown⟩
  cases b5
  · go_enter Try.func34, Try.ntmps34
    go_wp2_with fail
    go_returns
    exact ⟨by simp, by go_grown⟩
  · go_enter Try.func34, Try.ntmps34
    go_wp2_with fail
    go_returns
    exact ⟨by simp, by go_grown⟩
end Go.Proofs.Ytodgnpggcdjgaaa
