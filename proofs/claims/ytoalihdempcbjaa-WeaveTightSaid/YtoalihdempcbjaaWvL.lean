/- weave, plain: how many spots and triangles there are. And what the cells of a list of threes hold. -/
import Derived.Test.YtoalihdempcbjaaWv8
namespace Go.Proofs.Ytoalihdempcbjaa
open Go.RowKit
set_option maxRecDepth 100000
set_option linter.unusedSimpArgs false
set_option linter.unusedVariables false
def sumR (R : Rt) : Nat := R.r0 + R.r1 + R.r2 + R.r3
theorem spots_len (R : Rt) (hR : R.ok) : (spotsN R).length = sumR R + (R.m - 1) * (R.m - 1) := by
  rw [(spots_num R hR).2]
  obtain ⟨h0, h1, h2, h3⟩ := hR
  simp only [offE, Rt.r, sumR]; omega
theorem tris_len (R : Rt) (hm : R.m ≠ 1) : (trisN R).length = (R.m - 2) * (2 * (R.m - 2)) + (sumR R + 4 * (R.m - 2)) := by
  rw [trisN, if_neg hm, List.length_append, midN_len]
  have e : ((List.range 4).flatMap (stripN R)).length = sumR R + 4 * (R.m - 2) := by
    have h4 : List.range 4 = [0, 1, 2, 3] := by decide
    rw [h4]
    simp [stripN, stripF_len, Rt.r, sumR]; omega
  rw [e]
theorem sq_split (q : Nat) : (q + 1) * (q + 1) = q * q + 2 * q + 1 := by
  rw [Nat.add_mul, Nat.mul_add]; omega
/-- What the law on counts says, of whole numbers. -/
theorem counts_good (R : Rt) (hR : R.ok) : ∃ E, 3 * (trisN R).length + sumR R = 2 * E ∧ (spotsN R).length + (trisN R).length = E + 1 ∧ (spotsN R).length = sumR R + (R.m - 1) * (R.m - 1) ∧ (trisN R).length ≤ 1000 ∧ (spotsN R).length ≤ 289 ∧ sumR R ≤ 64 := by
  have hm := Rt.ok_m hR
  have hs : sumR R ≤ 64 := by obtain ⟨h0, h1, h2, h3⟩ := hR; unfold sumR; omega
  have hl := spots_len R hR
  have hle := spots_le R hR
  have hte : (trisN R).length ≤ 1000 := by
    by_cases h1 : R.m = 1
    · rw [trisN, if_pos h1]; simp
    · have h := tris_le R hR 4 (Nat.le_refl _)
      rw [trisN, if_neg h1]; exact h
  by_cases h1 : R.m = 1
  · have ht : (trisN R).length = 2 := by rw [trisN, if_pos h1]; rfl
    have h4 : sumR R = 4 := by
      have e := h1
      unfold Rt.m at e
      obtain ⟨g0, g1, g2, g3⟩ := hR
      unfold sumR; omega
    rw [h1] at hl
    exact ⟨5, by omega, by omega, by rw [h1]; exact hl, hte, hle, hs⟩
  · have ht := tris_len R h1
    obtain ⟨q, hq⟩ : ∃ q, R.m = q + 2 := ⟨R.m - 2, by omega⟩
    rw [hq] at ht hl ⊢
    simp only [Nat.add_sub_cancel, show q + 2 - 1 = q + 1 by omega] at ht hl ⊢
    rw [sq_split] at hl ⊢
    rw [show q * (2 * q) = 2 * (q * q) by rw [Nat.mul_left_comm]] at ht
    generalize q * q = s at ht hl ⊢
    exact ⟨3 * s + 2 * sumR R + 6 * q, by omega, by omega, hl, hte, hle, hs⟩
def evR (n : Nat) : Rt := ⟨n, n, n, n⟩
theorem evR_m (n : Nat) : (evR n).m = n := by unfold Rt.m evR; simp
theorem even_good (n : Nat) (h1 : 1 ≤ n) (h2 : n ≤ 16) : (spotsN (evR n)).length = (n + 1) * (n + 1) ∧ (trisN (evR n)).length = 2 * n * n := by
  have hR : (evR n).ok := ⟨⟨h1, h2⟩, ⟨h1, h2⟩, ⟨h1, h2⟩, ⟨h1, h2⟩⟩
  have hs : sumR (evR n) = 4 * n := by simp [sumR, evR]; omega
  have hl := spots_len (evR n) hR
  rw [evR_m, hs] at hl
  by_cases e : n = 1
  · subst e; exact ⟨hl, by rw [trisN, if_pos (evR_m 1)]; rfl⟩
  · have ht := tris_len (evR n) (by rw [evR_m]; exact e)
    rw [evR_m, hs] at ht
    obtain ⟨q, rfl⟩ : ∃ q, n = q + 2 := ⟨n - 2, by omega⟩
    simp only [Nat.add_sub_cancel, show q + 2 - 1 = q + 1 by omega] at ht hl
    rw [sq_split] at hl
    rw [show q * (2 * q) = 2 * (q * q) by rw [Nat.mul_left_comm]] at ht
    have e0 : ∀ a, (a + 3) * (a + 3) = a * a + 6 * a + 9 := fun a => by rw [Nat.add_mul, Nat.mul_add]; omega
    have e1 : (q + 2 + 1) * (q + 2 + 1) = q * q + 6 * q + 9 := e0 q
    have e2 : 2 * (q + 2) * (q + 2) = 2 * (q * q) + 8 * q + 8 := by
      rw [Nat.mul_assoc, Nat.add_mul q 2 (q + 2), Nat.mul_add q q 2]; omega
    rw [e1, e2]
    generalize q * q = s at ht hl ⊢
    exact ⟨by omega, by omega⟩
theorem fl3_at (l : List T3) (j : Nat) (hj : j < l.length) (o : Nat) (ho : o < 3) : (fl3 l)[j * 3 + o]? = (c3 l[j])[o]? := by
  have e : l = l.take j ++ (l[j] :: l.drop (j + 1)) := by rw [← List.drop_eq_getElem_cons hj, List.take_append_drop]
  have hl : (fl3 (l.take j)).length = j * 3 := by rw [fl3_len, List.length_take]; omega
  have e2 : fl3 l = fl3 (l.take j) ++ (c3 l[j] ++ fl3 (l.drop (j + 1))) := by
    conv => lhs; rw [e, fl3_app]
    rfl
  rw [e2, List.getElem?_append_right (by omega), hl, Nat.add_sub_cancel_left, List.getElem?_append_left (by simp [c3]; omega)]
/-- What the cells of an owned list of threes hold. -/
theorem row3_cell {w : World} {B n : Nat} {e : TypeId} {p : Option Addr} {c : Nat} {l : List T3} (h : w.ownsRow B e 3 (.slice p n c) n (fl3 l)) (h0 : 0 < n) : ∃ g, p = some ⟨g, 0, none⟩ ∧ g < w.heap.size ∧ l.length = n ∧ ∀ j (hj : j < l.length), w.cell? ⟨g, j * 3, none⟩ = some (.int .i64 (l[j].1 : Int)) ∧ w.cell? ⟨g, j * 3 + 1, none⟩ = some (.int .i64 (l[j].2.1 : Int)) ∧ w.cell? ⟨g, j * 3 + 2, none⟩ = some (.int .i64 (l[j].2.2 : Int)) := by
  obtain ⟨g, cap, e1, hB, hg⟩ := World.ownsRow.form h h0
  have hp : p = some ⟨g, 0, none⟩ := by
    injection e1
  subst hp
  have hl : l.length = n := by have := h.1; rw [fl3_len] at this; omega
  refine ⟨g, rfl, hg, hl, fun j hj => ?_⟩
  have k := fun o (ho : o < 3) u (hu : (c3 l[j])[o]? = some u) => World.ownsRow.cells h (g := g) rfl (j * 3 + o) u ((fl3_at l j hj o ho).trans hu)
  refine ⟨?_, ?_, ?_⟩
  · have := k 0 (by omega) _ rfl; rw [add_none, Nat.zero_add] at this; exact this
  · have := k 1 (by omega) _ rfl; rw [add_none, Nat.zero_add] at this; exact this
  · have := k 2 (by omega) _ rfl; rw [add_none, Nat.zero_add] at this; exact this
theorem own_max4 (ts : Array TypeId) (t : TypeId) (x y z u : Int) (w : World) : (Builtin.max_ ts t #[.int .i64 x, .int .i64 y, .int .i64 z, .int .i64 u]).run Try.prog w = .ok (.int .i64 (mx (mx (mx x y) z) u)) w := by
  simp [Builtin.max_, Builtin.max2, mx]; rfl
theorem row_below {w w' : World} {B n sz : Nat} {e : TypeId} {v : Value} {xs : List Value} (h : w.ownsRow B e sz v n xs) (hb : Below w.heap.size w w') : w'.ownsRow B e sz v n xs := World.ownsRow.kept h (below_gb hb) (Classical.em _)
end Go.Proofs.Ytoalihdempcbjaa
