/- How a slice of numbers, or of points, that is handed in is opened: its length and what its cells hold. No condition. -/
import Derived.Test.YtodgnpggcdjgaaaFlat
import Derived.ChangeSlices
import Derived.Deep.Slices
import Derived.OpenShut
import Derived.Lib.Slices
namespace Go.Proofs.Ytodgnpggcdjgaaa
set_option linter.unusedSimpArgs false
set_option linter.unusedVariables false
open Go.RowKit Go.ChangeShapes Go.WideShapes Go.Deep
/-- A slice of the numbers zs. -/
def Ints (W : World) (v : Value) (zs : List Int) : Prop :=
  (zs = [] ∧ ∃ a c, v = .slice a 0 c) ∨ ∃ b off c, v = .slice (some ⟨b, off, none⟩) zs.length c ∧ 0 < zs.length ∧ zs.length ≤ c ∧ c ≤ maxLen ∧ b < W.heap.size ∧ ∀ j, j < zs.length → W.cell? ⟨b, off + j, none⟩ = some (.int .i64 (zs.getD j 0))
/-- A slice of n points, whose numbers are X one behind the other. -/
def Pts (W : World) (v : Value) (n : Nat) (X : Nat → Int) : Prop :=
  (n = 0 ∧ ∃ a c, v = .slice a 0 c) ∨ ∃ b off c, v = .slice (some ⟨b, off, none⟩) n c ∧ 0 < n ∧ n ≤ c ∧ c ≤ maxLen ∧ b < W.heap.size ∧ ∀ o, o < n * 3 → W.cell? ⟨b, off + o, none⟩ = some (.int .i64 (X o))
theorem open_Vs {H : Type} {enc : TypeId × Value → H} {W : World} {base : Nat} {spare : Nat → Bool} {held : Bool} {r : Reach} {b0 : Nat} {v : Value} {d : DataW H} {p : List MemPlace}
    (hv : Value.okWide Try.prog W r b0 39 v) (h : DataW.Trod enc Try.prog W base spare held 39 v d p) : ∃ (n : Nat) (X : Nat → Int), Pts W v n X ∧ ∀ o, I64 (X o) := by
  obtain ⟨a0, len0, cap0, rfl⟩ := okWide_slice Try.underlying39 hv
  obtain ⟨fuel, hf⟩ := h
  rcases open_slice Try.underlying39 hf with ⟨hcs, hx⟩ | ⟨a, len, cap, m, n, D, Pl, hcs, _, hl, hm, hmm, hx, hel⟩
  · obtain ⟨rfl, rfl, rfl⟩ : a0 = none ∧ len0 = 0 ∧ cap0 = 0 := by simpa [Value.cells] using hcs
    exact ⟨0, fun _ => 0, .inl ⟨rfl, none, 0, rfl⟩, fun o => (by unfold I64; omega : I64 0)⟩
  · obtain ⟨rfl, rfl, rfl⟩ : a0 = some a ∧ len0 = len ∧ cap0 = cap := by simpa [Value.cells] using hcs
    have hlm : len0 ≤ m := by rw [hmm]; split <;> omega
    rcases Nat.eq_zero_or_pos len0 with rfl | h0
    · exact ⟨0, fun _ => 0, .inl ⟨rfl, _, _, rfl⟩, fun o => (by unfold I64; omega : I64 0)⟩
    have one : ∀ o, o < len0 * 3 → ∃ z : Int, W.cell? (a.add o) = some (.int .i64 z) ∧ I64 z := by
      intro o ho
      obtain ⟨cs, h1, h2⟩ := hel (o / 3) (by omega)
      obtain ⟨hl3, hall⟩ := flatV.2 _ _ _ _ _ _ _ _ h2
      rw [flatV.1] at h1
      obtain ⟨_, _, hcell⟩ := World.cells?_some h1
      have hc := hcell (o % 3) (by omega)
      rw [Go.Deep.add_add, show o / 3 * 3 + o % 3 = o by omega] at hc
      have hlt : o % 3 < cs.length := by omega
      obtain ⟨z, hz, hz'⟩ := hall cs[o % 3] (List.getElem_mem hlt)
      refine ⟨z, ?_, hz'⟩
      rw [hc, List.getElem?_eq_getElem hlt, hz]
    obtain ⟨X, hX⟩ := choose_lt one
    obtain ⟨b, off, spot⟩ := a
    have hspot : spot = none := by simpa [Addr.add] using World.cell?_spot (hX 0 (by omega)).1
    subst hspot
    refine ⟨len0, fun o => if o < len0 * 3 then X o else 0, .inr ⟨b, off, cap0, rfl, h0, hl, hm, ?_, fun o ho => ?_⟩, fun o => ?_⟩
    · have := World.block_lt_of_cell? W _ (hX 0 (by omega)).1
      rwa [block_add] at this
    · show W.cell? ⟨b, off + o, none⟩ = some (.int .i64 (if o < len0 * 3 then X o else 0))
      rw [if_pos ho, ← (hX o ho).1, add_plain]
    · show I64 (if o < len0 * 3 then X o else 0)
      split
      · exact (hX o (by assumption)).2
      · unfold I64; omega
end Go.Proofs.Ytodgnpggcdjgaaa
