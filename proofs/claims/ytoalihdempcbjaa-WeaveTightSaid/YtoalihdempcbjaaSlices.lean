/- How a slice of numbers, or of points, that is handed in is opened: its length and what its cells hold. No condition. -/
import Derived.Test.YtoalihdempcbjaaFlat
import Derived.ChangeSlices
import Derived.Deep.Slices
import Derived.OpenShut
import Derived.Lib.Slices
namespace Go.Proofs.Ytoalihdempcbjaa
set_option linter.unusedSimpArgs false
set_option linter.unusedVariables false
open Go.RowKit Go.ChangeShapes Go.WideShapes Go.Deep
/-- A slice of the numbers zs. -/
def Ints (W : World) (v : Value) (zs : List Int) : Prop :=
  (zs = [] ∧ ∃ a c, v = .slice a 0 c) ∨ ∃ b off c, v = .slice (some ⟨b, off, none⟩) zs.length c ∧ 0 < zs.length ∧ zs.length ≤ c ∧ c ≤ maxLen ∧ b < W.heap.size ∧ ∀ j, j < zs.length → W.cell? ⟨b, off + j, none⟩ = some (.int .i64 (zs.getD j 0))
/-- A slice of n points, whose numbers are X one behind the other. -/
def Pts (W : World) (v : Value) (n : Nat) (X : Nat → Int) : Prop :=
  (n = 0 ∧ ∃ a c, v = .slice a 0 c) ∨ ∃ b off c, v = .slice (some ⟨b, off, none⟩) n c ∧ 0 < n ∧ n ≤ c ∧ c ≤ maxLen ∧ b < W.heap.size ∧ ∀ o, o < n * 3 → W.cell? ⟨b, off + o, none⟩ = some (.int .i64 (X o))
theorem ints_of_trod {H : Type} {enc : TypeId × Value → H} {W : World} {base : Nat} {spare : Nat → Bool} {held : Bool} {fuel : Nat} {v : Value} {x : DataW H × List MemPlace}
    (hf : DataW.trod enc Try.prog W base spare held fuel 26 [v] = some x) : ∃ zs : List Int, Ints W v zs ∧ ∀ z ∈ zs, I64 z := by
  rcases open_ints Try.underlying26 Try.underlying3 (by kernel_rfl) hf with ⟨hcs, hx⟩ | ⟨a, len, cap, zs, hcs, _, hl, hm, hz, hx, hcell, hwz⟩
  · obtain rfl : v = _ := by simpa using hcs
    exact ⟨[], .inl ⟨rfl, none, 0, rfl⟩, by simp⟩
  · obtain rfl : v = _ := by simpa using hcs
    have hzl : len ≤ zs.length := by rw [hz]; split <;> omega
    refine ⟨zs.take len, ?_, fun z hz => i64_wf (hwz z (List.mem_of_mem_take hz))⟩
    rcases Nat.eq_zero_or_pos len with rfl | h0
    · exact .inl ⟨by simp, _, _, rfl⟩
    obtain ⟨b, off, rfl, hc⟩ := ints_at hcell (by omega)
    have e : (zs.take len).length = len := by rw [List.length_take]; omega
    refine .inr ⟨b, off, cap, by rw [e], by rw [e]; exact h0, by rw [e]; exact hl, hm, World.block_lt_of_cell? W _ (hc 0 (by omega)), fun j hj => ?_⟩
    rw [e] at hj
    rw [hc j (by omega), Lib.getD_take _ _ _ hj]
theorem open_Ints {H : Type} {enc : TypeId × Value → H} {W : World} {base : Nat} {spare : Nat → Bool} {held : Bool} {r : Reach} {b0 : Nat} {v : Value} {d : DataW H} {p : List MemPlace}
    (hv : Value.okWide Try.prog W r b0 26 v) (h : DataW.Trod enc Try.prog W base spare held 26 v d p) : ∃ zs : List Int, Ints W v zs ∧ ∀ z ∈ zs, I64 z := by
  obtain ⟨a0, len, cap, rfl⟩ := okWide_slice Try.underlying26 hv
  obtain ⟨fuel, hf⟩ := h
  exact ints_of_trod hf
end Go.Proofs.Ytoalihdempcbjaa
