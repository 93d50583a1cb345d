/- How a slice of numbers, or of points, that is handed in is opened: its length and what its cells hold. No condition. -/
import Derived.Test.YtdemcleibpgglaaFlat
import Derived.ChangeSlices
import Derived.Deep.Slices
import Derived.OpenShut
import Derived.Lib.Slices
namespace Go.Proofs.Ytdemcleibpgglaa
set_option linter.unusedSimpArgs false
set_option linter.unusedVariables false
open Go.RowKit Go.ChangeShapes Go.WideShapes Go.Deep
/-- A slice of the numbers zs. -/
def Ints (W : World) (v : Value) (zs : List Int) : Prop :=
  (zs = [] ∧ ∃ a c, v = .slice a 0 c) ∨ ∃ b off c, v = .slice (some ⟨b, off, none⟩) zs.length c ∧ 0 < zs.length ∧ zs.length ≤ c ∧ c ≤ maxLen ∧ b < W.heap.size ∧ ∀ j, j < zs.length → W.cell? ⟨b, off + j, none⟩ = some (.int .i64 (zs.getD j 0))
/-- A slice of n points, whose numbers are X one behind the other. -/
def Pts (W : World) (v : Value) (n : Nat) (X : Nat → Int) : Prop :=
  (n = 0 ∧ ∃ a c, v = .slice a 0 c) ∨ ∃ b off c, v = .slice (some ⟨b, off, none⟩) n c ∧ 0 < n ∧ n ≤ c ∧ c ≤ maxLen ∧ b < W.heap.size ∧ ∀ o, o < n * 3 → W.cell? ⟨b, off + o, none⟩ = some (.int .i64 (X o))
theorem ints_of_trod {H : Type} {enc : TypeId × Value → H} {W : World} {base : Nat} {spare : Nat → Bool} {held : Bool} {fuel : Nat} {v : Value} {x : DataW H × List MemPlace}
    (hf : DataW.trod enc Try.prog W base spare held fuel 34 [v] = some x) : ∃ zs : List Int, Ints W v zs ∧ ∀ z ∈ zs, I64 z := by
  rcases open_ints Try.underlying34 Try.underlying3 (by kernel_rfl) hf with ⟨hcs, hx⟩ | ⟨a, len, cap, zs, hcs, _, hl, hm, hz, hx, hcell, hwz⟩
  · obtain rfl : v = _ := by simpa using hcs
    exact ⟨[], .inl ⟨rfl, none, 0, rfl⟩, by simp⟩
  · obtain rfl : v = _ := by simpa using hcs
    have hzl : len ≤ zs.length := by rw [hz]; split <;> omega
    refine ⟨zs.take len, ?_, fun z hz => i64_wf (hwz z (List.mem_of_mem_take hz))⟩
    rcases Nat.eq_zero_or_pos len with rfl | h0
    · exact .inl ⟨by simp, _, _, rfl⟩
    obtain ⟨b, off, rfl, hc⟩ := ints_at hcell (by omega)
    have e : (zs.take len).length = len := by rw [List.length_take]; omega
    refine .inr ⟨b, off, cap, by rw [e], by rw [e]; exact h0, by rw [e]; exact hl, hm, World.block_lt_of_cell? W _ (hc 0 (by omega)), fun j hj => ?_⟩
    rw [e] at hj
    rw [hc j (by omega), Lib.getD_take _ _ _ hj]
theorem open_Ints {H : Type} {enc : TypeId × Value → H} {W : World} {base : Nat} {spare : Nat → Bool} {held : Bool} {r : Reach} {b0 : Nat} {v : Value} {d : DataW H} {p : List MemPlace}
    (hv : Value.okWide Try.prog W r b0 34 v) (h : DataW.Trod enc Try.prog W base spare held 34 v d p) : ∃ zs : List Int, Ints W v zs ∧ ∀ z ∈ zs, I64 z := by
  obtain ⟨a0, len, cap, rfl⟩ := okWide_slice Try.underlying34 hv
  obtain ⟨fuel, hf⟩ := h
  exact ints_of_trod hf
theorem open_Vs {H : Type} {enc : TypeId × Value → H} {W : World} {base : Nat} {spare : Nat → Bool} {held : Bool} {r : Reach} {b0 : Nat} {v : Value} {d : DataW H} {p : List MemPlace}
    (hv : Value.okWide Try.prog W r b0 48 v) (h : DataW.Trod enc Try.prog W base spare held 48 v d p) : ∃ (n : Nat) (X : Nat → Int), Pts W v n X ∧ ∀ o, I64 (X o) := by
  obtain ⟨a0, len0, cap0, rfl⟩ := okWide_slice Try.underlying48 hv
  obtain ⟨fuel, hf⟩ := h
  rcases open_slice Try.underlying48 hf with ⟨hcs, hx⟩ | ⟨a, len, cap, m, n, D, Pl, hcs, _, hl, hm, hmm, hx, hel⟩
  · obtain ⟨rfl, rfl, rfl⟩ : a0 = none ∧ len0 = 0 ∧ cap0 = 0 := by simpa [Value.cells] using hcs
    exact ⟨0, fun _ => 0, .inl ⟨rfl, none, 0, rfl⟩, fun o => (by unfold I64; omega : I64 0)⟩
  · obtain ⟨rfl, rfl, rfl⟩ : a0 = some a ∧ len0 = len ∧ cap0 = cap := by simpa [Value.cells] using hcs
    have hlm : len0 ≤ m := by rw [hmm]; split <;> omega
    rcases Nat.eq_zero_or_pos len0 with rfl | h0
    · exact ⟨0, fun _ => 0, .inl ⟨rfl, _, _, rfl⟩, fun o => (by unfold I64; omega : I64 0)⟩
    have one : ∀ o, o < len0 * 3 → ∃ z : Int, W.cell? (a.add o) = some (.int .i64 z) ∧ I64 z := by
      intro o ho
      obtain ⟨cs, h1, h2⟩ := hel (o / 3) (by omega)
      obtain ⟨hl3, hall⟩ := flatV.2 _ _ _ _ _ _ _ _ h2
      rw [flatV.1] at h1
      obtain ⟨_, _, hcell⟩ := World.cells?_some h1
      have hc := hcell (o % 3) (by omega)
      rw [Go.Deep.add_add, show o / 3 * 3 + o % 3 = o by omega] at hc
      have hlt : o % 3 < cs.length := by omega
      obtain ⟨z, hz, hz'⟩ := hall cs[o % 3] (List.getElem_mem hlt)
      refine ⟨z, ?_, hz'⟩
      rw [hc, List.getElem?_eq_getElem hlt, hz]
    obtain ⟨X, hX⟩ := choose_lt one
    obtain ⟨b, off, spot⟩ := a
    have hspot : spot = none := by simpa [Addr.add] using World.cell?_spot (hX 0 (by omega)).1
    subst hspot
    refine ⟨len0, fun o => if o < len0 * 3 then X o else 0, .inr ⟨b, off, cap0, rfl, h0, hl, hm, ?_, fun o ho => ?_⟩, fun o => ?_⟩
    · have := World.block_lt_of_cell? W _ (hX 0 (by omega)).1
      rwa [block_add] at this
    · show W.cell? ⟨b, off + o, none⟩ = some (.int .i64 (if o < len0 * 3 then X o else 0))
      rw [if_pos ho, ← (hX o ho).1, add_plain]
    · show I64 (if o < len0 * 3 then X o else 0)
      split
      · exact (hX o (by assumption)).2
      · unfold I64; omega
theorem open_Tex {H : Type} {enc : TypeId × Value → H} {W : World} {base : Nat} {spare : Nat → Bool} {held : Bool} {r : Reach} {b0 : Nat} {v : Value} {d : DataW H} {p : List MemPlace}
    (hv : Value.okWide Try.prog W r b0 36 v) (h : DataW.Trod enc Try.prog W base spare held 36 v d p) :
    ∃ (s v' : Value) (a b : Int) (zs : List Int), v = .agg #[s, .int .i64 a, .int .i64 b, v'] ∧ I64 a ∧ I64 b ∧ Ints W v' zs ∧ ∀ z ∈ zs, I64 z := by
  have ha : ∃ cs, v = .agg cs := by
    simp only [Value.okWide, Try.underlying36] at hv; obtain ⟨cs, h1, _⟩ := hv; exact ⟨cs, h1⟩
  obtain ⟨cs, rfl⟩ := ha
  obtain ⟨fuel, hx⟩ := h
  obtain ⟨xs, m, _, _, hlen, hxs, hf⟩ := DataW.trod_struct Try.underlying36 hx
  have hl : cs.toList.length = 4 := hlen.trans (by kernel_rfl)
  obtain ⟨c0, c1, c2, c3, he⟩ : ∃ c0 c1 c2 c3, cs.toList = [c0, c1, c2, c3] := by
    match hc : cs.toList, hl with
    | [c0, c1, c2, c3], _ => exact ⟨c0, c1, c2, c3, rfl⟩
  obtain rfl : cs = #[c0, c1, c2, c3] := by cases cs; simp_all
  have hx4 : xs.length = 4 := hxs
  have ci : Try.prog.cellsOf 3 = 1 := by kernel_rfl
  have cl : Try.prog.cellsOf 34 = 1 := by kernel_rfl
  have h1 := hf 1 _ rfl
  have h2 := hf 2 _ rfl
  have h3 := hf 3 _ rfl
  rw [List.getElem?_eq_getElem (by omega)] at h1 h2 h3
  obtain ⟨a, ea, _, wa⟩ := DataW.trod_int Try.underlying3 h1
  obtain ⟨b, eb, _, wb⟩ := DataW.trod_int Try.underlying3 h2
  have ea' : List.take 1 [c1, c2, c3] = [Value.int .i64 a] := by rw [show (1 : Nat) = Try.prog.cellsOf 3 from ci.symm]; exact ea
  have eb' : List.take 1 [c2, c3] = [Value.int .i64 b] := by rw [show (1 : Nat) = Try.prog.cellsOf 3 from ci.symm]; exact eb
  have h3' : DataW.trod enc Try.prog W base spare held m 34 (List.take 1 [c3]) = some xs[3] := by rw [show (1 : Nat) = Try.prog.cellsOf 34 from cl.symm]; exact h3
  obtain rfl : c1 = _ := by simpa using ea'
  obtain rfl : c2 = _ := by simpa using eb'
  obtain ⟨zs, hz, hzb⟩ := ints_of_trod (v := c3) h3'
  exact ⟨c0, c3, a, b, zs, rfl, i64_wf wa, i64_wf wb, hz, hzb⟩
end Go.Proofs.Ytdemcleibpgglaa
