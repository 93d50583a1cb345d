/- A block's cells behind a call that makes memory; products and sums of small numbers that stay within 64 bits. No condition. -/
import Derived.Test.YtoalihdempcbjaaVec
namespace Go.Proofs.Ytoalihdempcbjaa
set_option linter.unusedSimpArgs false
set_option linter.unusedVariables false
open Go.RowKit
theorem blk_later {W w' : World} {b : Nat} {cs : Array Value} (hs : 0 < cs.size) (hb : Below W.heap.size W w') (h : ∀ o, W.cell? ⟨b, o, none⟩ = cs[o]?) : ∀ o, w'.cell? ⟨b, o, none⟩ = cs[o]? := by
  intro o
  have h0 := h 0
  rw [Array.getElem?_eq_getElem hs] at h0
  have hl : b < W.heap.size := World.block_lt_of_cell? W ⟨b, 0, none⟩ h0
  exact (hb.cell (p := ⟨b, o, none⟩) hl).trans (h o)
theorem blk_alloc {W : World} {b : Nat} {cs : Array Value} (hs : 0 < cs.size) (x : Obj) (h : ∀ o, W.cell? ⟨b, o, none⟩ = cs[o]?) : ∀ o, (W.alloc x).cell? ⟨b, o, none⟩ = cs[o]? :=
  blk_later hs ((Below.refl _ _).alloc (Nat.le_refl _) _) h
theorem blk_drew {W : World} {b : Nat} {cs : Array Value} (h : ∀ o, W.cell? ⟨b, o, none⟩ = cs[o]?) : ∀ o, W.drew.cell? ⟨b, o, none⟩ = cs[o]? := h
theorem blk_lt {W : World} {b : Nat} {cs : Array Value} (hs : 0 < cs.size) (h : ∀ o, W.cell? ⟨b, o, none⟩ = cs[o]?) : b < W.heap.size := by
  have h0 := h 0
  rw [Array.getElem?_eq_getElem hs] at h0
  exact World.block_lt_of_cell? W ⟨b, 0, none⟩ h0
theorem list4 {α : Type} {l : List α} (h : l.length = 4) : ∃ a b c d, l = [a, b, c, d] := by
  match l, h with
  | [a, b, c, d], _ => exact ⟨a, b, c, d, rfl⟩
theorem list6 {α : Type} {l : List α} (h : l.length = 6) : ∃ a b c d e f, l = [a, b, c, d, e, f] := by
  match l, h with
  | [a, b, c, d, e, f], _ => exact ⟨a, b, c, d, e, f, rfl⟩
theorem list12 {α : Type} {l : List α} (h : l.length = 12) : ∃ x0 y0 z0 x1 y1 z1 x2 y2 z2 x3 y3 z3, l = [x0, y0, z0, x1, y1, z1, x2, y2, z2, x3, y3, z3] := by
  match l, h with
  | [x0, y0, z0, x1, y1, z1, x2, y2, z2, x3, y3, z3], _ => exact ⟨x0, y0, z0, x1, y1, z1, x2, y2, z2, x3, y3, z3, rfl⟩
abbrev C12 (x0 y0 z0 x1 y1 z1 x2 y2 z2 x3 y3 z3 : Int) : Array Value := #[.int .i64 x0, .int .i64 y0, .int .i64 z0, .int .i64 x1, .int .i64 y1, .int .i64 z1, .int .i64 x2, .int .i64 y2, .int .i64 z2, .int .i64 x3, .int .i64 y3, .int .i64 z3]
theorem scale_sm (x y z k p q r : Int) (e1 : x * k = p) (e2 : y * k = q) (e3 : z * k = r) (h1 : -1099511627776 ≤ p ∧ p ≤ 1099511627776) (h2 : -1099511627776 ≤ q ∧ q ≤ 1099511627776) (h3 : -1099511627776 ≤ r ∧ r ≤ 1099511627776) (w : World) :
    Calls Try.prog 29 #[V3 x y z, .int .i64 k] w fun e w' => e = .returned (V3 p q r) ∧ Below w.heap.size w w' := by
  subst e1 e2 e3
  have := scale_any x y z k w
  rw [w64 (x := x * k) (by omega) (by omega), w64 (x := y * k) (by omega) (by omega), w64 (x := z * k) (by omega) (by omega)] at this
  exact this
theorem add_sm (x y z a b c p q r : Int) (e1 : x + a = p) (e2 : y + b = q) (e3 : z + c = r) (h1 : -1152921504606846976 ≤ p ∧ p ≤ 1152921504606846976) (h2 : -1152921504606846976 ≤ q ∧ q ≤ 1152921504606846976) (h3 : -1152921504606846976 ≤ r ∧ r ≤ 1152921504606846976) (w : World) :
    Calls Try.prog 28 #[V3 x y z, V3 a b c] w fun e w' => e = .returned (V3 p q r) ∧ Below w.heap.size w w' := by
  subst e1 e2 e3
  have := add_any x y z a b c w
  rw [w64 (x := x + a) (by omega) (by omega), w64 (x := y + b) (by omega) (by omega), w64 (x := z + c) (by omega) (by omega)] at this
  exact this
end Go.Proofs.Ytoalihdempcbjaa
