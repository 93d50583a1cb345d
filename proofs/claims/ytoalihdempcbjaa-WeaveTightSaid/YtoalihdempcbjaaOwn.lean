/- Words for the walks of this seat: the builtin max and min as plain functions, a point as a value, 'is each part of a point within a bound'. No condition. -/
import Derived.Test.YtoalihdempcbjaaProg
import Derived.Test.YtoalihdempcbjaaPlain
import Derived.WalkKit
import Derived.Deep.QuietTactic
import Derived.BigQuiet
import Derived.Below
import Derived.Handy
import Derived.WalkSmall
import Derived.Deep.RegionHeld3
import Derived.KernelRfl
import Derived.Lib.Hide
import Derived.WalkSpells
namespace Go.Proofs.Ytoalihdempcbjaa
open Go.RowKit
section
variable {P : Program} {w : World}
@[go_sem high] theorem own_max2 (ts : Array TypeId) (t : TypeId) (k k' : IntKind) (x y : Int) : (Builtin.max_ ts t #[.int k x, .int k' y]).run P w = .ok (.int k (mx x y)) w := by
  simp [Builtin.max_, Builtin.max2, mx]
@[go_sem high] theorem own_min2 (ts : Array TypeId) (t : TypeId) (k k' : IntKind) (x y : Int) : (Builtin.min_ ts t #[.int k x, .int k' y]).run P w = .ok (.int k (mn x y)) w := by
  simp [Builtin.min_, Builtin.min2, mn]
@[go_sem high] theorem own_max3 (ts : Array TypeId) (t : TypeId) (k k' k'' : IntKind) (x y z : Int) : (Builtin.max_ ts t #[.int k x, .int k' y, .int k'' z]).run P w = .ok (.int k (mx (mx x y) z)) w := by
  simp [Builtin.max_, Builtin.max2, mx]; rfl
@[go_sem high] theorem own_min3 (ts : Array TypeId) (t : TypeId) (k k' k'' : IntKind) (x y z : Int) : (Builtin.min_ ts t #[.int k x, .int k' y, .int k'' z]).run P w = .ok (.int k (mn (mn x y) z)) w := by
  simp [Builtin.min_, Builtin.min2, mn]; rfl
end
/-- Is each part of a point within a bound, as the program asks it? -/
def inB (x y z m : Int) : Bool := decide (wrap64 (-m) ≤ mn (mn x y) z) && decide (mx (mx x y) z ≤ m)
theorem inB_iff {x y z m : Int} (h0 : 0 ≤ m) (h1 : m ≤ 9223372036854775807) : inB x y z m = true ↔ (-m ≤ x ∧ x ≤ m) ∧ (-m ≤ y ∧ y ≤ m) ∧ (-m ≤ z ∧ z ≤ m) := by
  have e : wrap64 (-m) = -m := by unfold wrap64; omega
  simp only [inB, Bool.and_eq_true, decide_eq_true_eq, le_mn, mx_le, e]
  omega
theorem inB_false {x y z m : Int} (h0 : 0 ≤ m) (h1 : m ≤ 9223372036854775807) : inB x y z m = false ↔ ¬ ((-m ≤ x ∧ x ≤ m) ∧ (-m ≤ y ∧ y ≤ m) ∧ (-m ≤ z ∧ z ≤ m)) := by
  rw [← inB_iff h0 h1]; simp
theorem w64 {x : Int} (h1 : -9223372036854775808 ≤ x) (h2 : x ≤ 9223372036854775807) : wrap64 x = x := by
  unfold wrap64; omega
/-- A number of 64 bits. -/
def I64 (x : Int) : Prop := -9223372036854775808 ≤ x ∧ x ≤ 9223372036854775807
/-- A point, as a value. -/
abbrev V3 (x y z : Int) : Value := .agg #[.int .i64 x, .int .i64 y, .int .i64 z]
/-- What a call that makes memory leaves as it was. -/
theorem bcell {W w1 : World} (hb : Below W.heap.size W w1) : (∀ b o, b < W.heap.size → w1.cell? ⟨b, o, none⟩ = W.cell? ⟨b, o, none⟩) ∧ (∀ b o, b < W.heap.size → w1.frozen? ⟨b, o, none⟩ = W.frozen? ⟨b, o, none⟩) :=
  ⟨fun b o h => hb.cell (p := ⟨b, o, none⟩) h, fun b o h => hb.frozen (p := ⟨b, o, none⟩) h⟩
theorem cell_alloc {w : World} {a : Addr} {v : Value} (o : Obj) (h : w.cell? a = some v) : (w.alloc o).cell? a = some v := (World.cell?_alloc_some w a o (by rw [h]; rfl)).trans h
theorem cell_drew {w : World} {a : Addr} {v : Value} (h : w.cell? a = some v) : w.drew.cell? a = some v := h
theorem cell_drewN {w : World} {a : Addr} {v : Value} (n : Nat) (h : w.cell? a = some v) : (w.drewN n).cell? a = some v := h
/- Small facts on the numbers of new blocks. -/
@[simp, go_sem] theorem lt_0_2 (n : Nat) : (n < n + 1 + 1) = True := by simp only [eq_iff_iff, iff_true]; omega
@[simp, go_sem] theorem lt_0_3 (n : Nat) : (n < n + 1 + 1 + 1) = True := by simp only [eq_iff_iff, iff_true]; omega
@[simp, go_sem] theorem lt_1_3 (n : Nat) : (n + 1 < n + 1 + 1 + 1) = True := by simp only [eq_iff_iff, iff_true]; omega
@[simp, go_sem] theorem lt_0_4 (n : Nat) : (n < n + 1 + 1 + 1 + 1) = True := by simp only [eq_iff_iff, iff_true]; omega
@[simp, go_sem] theorem lt_1_4 (n : Nat) : (n + 1 < n + 1 + 1 + 1 + 1) = True := by simp only [eq_iff_iff, iff_true]; omega
@[simp, go_sem] theorem lt_2_4 (n : Nat) : (n + 1 + 1 < n + 1 + 1 + 1 + 1) = True := by simp only [eq_iff_iff, iff_true]; omega
@[simp, go_sem] theorem lt_0_5 (n : Nat) : (n < n + 1 + 1 + 1 + 1 + 1) = True := by simp only [eq_iff_iff, iff_true]; omega
@[simp, go_sem] theorem lt_1_5 (n : Nat) : (n + 1 < n + 1 + 1 + 1 + 1 + 1) = True := by simp only [eq_iff_iff, iff_true]; omega
@[simp, go_sem] theorem lt_2_5 (n : Nat) : (n + 1 + 1 < n + 1 + 1 + 1 + 1 + 1) = True := by simp only [eq_iff_iff, iff_true]; omega
@[simp, go_sem] theorem lt_3_5 (n : Nat) : (n + 1 + 1 + 1 < n + 1 + 1 + 1 + 1 + 1) = True := by simp only [eq_iff_iff, iff_true]; omega
@[simp, go_sem] theorem lt_0_6 (n : Nat) : (n < n + 1 + 1 + 1 + 1 + 1 + 1) = True := by simp only [eq_iff_iff, iff_true]; omega
@[simp, go_sem] theorem lt_1_6 (n : Nat) : (n + 1 < n + 1 + 1 + 1 + 1 + 1 + 1) = True := by simp only [eq_iff_iff, iff_true]; omega
@[simp, go_sem] theorem lt_2_6 (n : Nat) : (n + 1 + 1 < n + 1 + 1 + 1 + 1 + 1 + 1) = True := by simp only [eq_iff_iff, iff_true]; omega
@[simp, go_sem] theorem lt_3_6 (n : Nat) : (n + 1 + 1 + 1 < n + 1 + 1 + 1 + 1 + 1 + 1) = True := by simp only [eq_iff_iff, iff_true]; omega
@[simp, go_sem] theorem lt_4_6 (n : Nat) : (n + 1 + 1 + 1 + 1 < n + 1 + 1 + 1 + 1 + 1 + 1) = True := by simp only [eq_iff_iff, iff_true]; omega
@[simp, go_sem] theorem lt_0_7 (n : Nat) : (n < n + 1 + 1 + 1 + 1 + 1 + 1 + 1) = True := by simp only [eq_iff_iff, iff_true]; omega
@[simp, go_sem] theorem lt_1_7 (n : Nat) : (n + 1 < n + 1 + 1 + 1 + 1 + 1 + 1 + 1) = True := by simp only [eq_iff_iff, iff_true]; omega
@[simp, go_sem] theorem lt_2_7 (n : Nat) : (n + 1 + 1 < n + 1 + 1 + 1 + 1 + 1 + 1 + 1) = True := by simp only [eq_iff_iff, iff_true]; omega
@[simp, go_sem] theorem lt_3_7 (n : Nat) : (n + 1 + 1 + 1 < n + 1 + 1 + 1 + 1 + 1 + 1 + 1) = True := by simp only [eq_iff_iff, iff_true]; omega
@[simp, go_sem] theorem lt_4_7 (n : Nat) : (n + 1 + 1 + 1 + 1 < n + 1 + 1 + 1 + 1 + 1 + 1 + 1) = True := by simp only [eq_iff_iff, iff_true]; omega
@[simp, go_sem] theorem lt_5_7 (n : Nat) : (n + 1 + 1 + 1 + 1 + 1 < n + 1 + 1 + 1 + 1 + 1 + 1 + 1) = True := by simp only [eq_iff_iff, iff_true]; omega
@[simp, go_sem] theorem lt_0_8 (n : Nat) : (n < n + 1 + 1 + 1 + 1 + 1 + 1 + 1 + 1) = True := by simp only [eq_iff_iff, iff_true]; omega
@[simp, go_sem] theorem lt_1_8 (n : Nat) : (n + 1 < n + 1 + 1 + 1 + 1 + 1 + 1 + 1 + 1) = True := by simp only [eq_iff_iff, iff_true]; omega
@[simp, go_sem] theorem lt_2_8 (n : Nat) : (n + 1 + 1 < n + 1 + 1 + 1 + 1 + 1 + 1 + 1 + 1) = True := by simp only [eq_iff_iff, iff_true]; omega
@[simp, go_sem] theorem lt_3_8 (n : Nat) : (n + 1 + 1 + 1 < n + 1 + 1 + 1 + 1 + 1 + 1 + 1 + 1) = True := by simp only [eq_iff_iff, iff_true]; omega
@[simp, go_sem] theorem lt_4_8 (n : Nat) : (n + 1 + 1 + 1 + 1 < n + 1 + 1 + 1 + 1 + 1 + 1 + 1 + 1) = True := by simp only [eq_iff_iff, iff_true]; omega
@[simp, go_sem] theorem lt_5_8 (n : Nat) : (n + 1 + 1 + 1 + 1 + 1 < n + 1 + 1 + 1 + 1 + 1 + 1 + 1 + 1) = True := by simp only [eq_iff_iff, iff_true]; omega
@[simp, go_sem] theorem lt_6_8 (n : Nat) : (n + 1 + 1 + 1 + 1 + 1 + 1 < n + 1 + 1 + 1 + 1 + 1 + 1 + 1 + 1) = True := by simp only [eq_iff_iff, iff_true]; omega
/-- One call more: what lay below the heap's size at the begin is as it was. -/
theorem bstep {w W w' : World} (hb : Below W.heap.size W w') (h : Below w.heap.size w W) : Below w.heap.size w w' := h.trans (hb.mono h.size)
end Go.Proofs.Ytoalihdempcbjaa
