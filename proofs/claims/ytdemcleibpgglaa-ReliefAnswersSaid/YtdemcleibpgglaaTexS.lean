/- A texture, opened: its name is a string. -/
import Derived.Test.YtdemcleibpgglaaSlices
namespace Go.Proofs.Ytdemcleibpgglaa
open Go.RowKit
set_option maxRecDepth 100000
set_option linter.unusedSimpArgs false
set_option linter.unusedVariables false
theorem open_TexS {H : Type} {enc : TypeId × Value → H} {W : World} {base : Nat} {spare : Nat → Bool} {held : Bool} {r : Reach} {b0 : Nat} {v : Value} {d : DataW H} {p : List MemPlace}
    (hv : Value.okWide Try.prog W r b0 36 v) (h : DataW.Trod enc Try.prog W base spare held 36 v d p) :
    ∃ (s : ByteArray) (v' : Value) (a b : Int) (zs : List Int), v = .agg #[.string s, .int .i64 a, .int .i64 b, v'] ∧ I64 a ∧ I64 b ∧ Ints W v' zs ∧ ∀ z ∈ zs, I64 z := by
  have ha : ∃ cs, v = .agg cs := by
    simp only [Value.okWide, Try.underlying36] at hv; obtain ⟨cs, h1, _⟩ := hv; exact ⟨cs, h1⟩
  obtain ⟨cs, rfl⟩ := ha
  obtain ⟨fuel, hx⟩ := h
  obtain ⟨xs, m, _, _, hlen, hxs, hf⟩ := DataW.trod_struct Try.underlying36 hx
  have hl : cs.toList.length = 4 := hlen.trans (by kernel_rfl)
  obtain ⟨c0, c1, c2, c3, he⟩ : ∃ c0 c1 c2 c3, cs.toList = [c0, c1, c2, c3] := by
    match hc : cs.toList, hl with
    | [c0, c1, c2, c3], _ => exact ⟨c0, c1, c2, c3, rfl⟩
  obtain rfl : cs = #[c0, c1, c2, c3] := by cases cs; simp_all
  have hx4 : xs.length = 4 := hxs
  have ci : Try.prog.cellsOf 3 = 1 := by kernel_rfl
  have cl : Try.prog.cellsOf 34 = 1 := by kernel_rfl
  have h0 := hf 0 _ rfl
  have h1 := hf 1 _ rfl
  have h2 := hf 2 _ rfl
  have h3 := hf 3 _ rfl
  rw [List.getElem?_eq_getElem (by omega)] at h0 h1 h2 h3
  have cs' : Try.prog.cellsOf 9 = 1 := by kernel_rfl
  obtain ⟨nm, en, _⟩ := DataW.trod_string Try.underlying9 h0
  have en' : List.take 1 [c0, c1, c2, c3] = [Value.string nm] := by rw [show (1 : Nat) = Try.prog.cellsOf 9 from cs'.symm]; exact en
  obtain ⟨a, ea, _, wa⟩ := DataW.trod_int Try.underlying3 h1
  obtain ⟨b, eb, _, wb⟩ := DataW.trod_int Try.underlying3 h2
  have ea' : List.take 1 [c1, c2, c3] = [Value.int .i64 a] := by rw [show (1 : Nat) = Try.prog.cellsOf 3 from ci.symm]; exact ea
  have eb' : List.take 1 [c2, c3] = [Value.int .i64 b] := by rw [show (1 : Nat) = Try.prog.cellsOf 3 from ci.symm]; exact eb
  have h3' : DataW.trod enc Try.prog W base spare held m 34 (List.take 1 [c3]) = some xs[3] := by rw [show (1 : Nat) = Try.prog.cellsOf 34 from cl.symm]; exact h3
  obtain rfl : c0 = _ := by simpa using en'
  obtain rfl : c1 = _ := by simpa using ea'
  obtain rfl : c2 = _ := by simpa using eb'
  obtain ⟨zs, hz, hzb⟩ := ints_of_trod (v := c3) h3'
  exact ⟨nm, c3, a, b, zs, rfl, i64_wf wa, i64_wf wb, hz, hzb⟩
end Go.Proofs.Ytdemcleibpgglaa
