/- Numbers that go round at 64 bits: sums, differences and products may be taken round once, at the end. No condition. -/
import Derived.Test.YtbmemnbfdbpdkaaOwn
namespace Go.Proofs.Ytbmemnbfdbpdkaa
open Go.RowKit
theorem w64_form (x : Int) : ∃ k, wrap64 x = x + 18446744073709551616 * k := ⟨(wrap64 x - x) / 18446744073709551616, by unfold wrap64; omega⟩
theorem w64_more (x k : Int) : wrap64 (x + 18446744073709551616 * k) = wrap64 x := by unfold wrap64; omega
theorem w64_addl (x y : Int) : wrap64 (wrap64 x + y) = wrap64 (x + y) := by unfold wrap64; omega
theorem w64_addr (x y : Int) : wrap64 (x + wrap64 y) = wrap64 (x + y) := by unfold wrap64; omega
theorem w64_subl (x y : Int) : wrap64 (wrap64 x - y) = wrap64 (x - y) := by unfold wrap64; omega
theorem w64_subr (x y : Int) : wrap64 (x - wrap64 y) = wrap64 (x - y) := by unfold wrap64; omega
theorem w64_neg (x : Int) : wrap64 (-wrap64 x) = wrap64 (-x) := by unfold wrap64; omega
theorem w64_w64 (x : Int) : wrap64 (wrap64 x) = wrap64 x := by unfold wrap64; omega
theorem w64_mull (x y : Int) : wrap64 (wrap64 x * y) = wrap64 (x * y) := by
  obtain ⟨k, hk⟩ := w64_form x
  rw [hk, Int.add_mul, Int.mul_assoc, w64_more]
theorem w64_mulr (x y : Int) : wrap64 (x * wrap64 y) = wrap64 (x * y) := by
  rw [Int.mul_comm, w64_mull, Int.mul_comm]
theorem w64_nil : wrap64 0 = 0 := by unfold wrap64; omega
end Go.Proofs.Ytbmemnbfdbpdkaa
