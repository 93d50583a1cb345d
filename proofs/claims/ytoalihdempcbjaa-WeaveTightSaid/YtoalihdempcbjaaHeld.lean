/- Words for regions whose order is drawn and that store at their end: what a cell holds, whatever it is; three stores into a block. No condition. -/
import Derived.Test.YtoalihdempcbjaaBlk
import Derived.Deep.DeepCutAuto
namespace Go.Proofs.Ytoalihdempcbjaa
set_option linter.unusedSimpArgs false
set_option linter.unusedVariables false
open Go.RowKit
def celq (w : World) (b o : Nat) : Value := (w.cell? ⟨b, o, none⟩).getD undef
theorem celq_of {w : World} {b o : Nat} {v : Value} (h : w.cell? ⟨b, o, none⟩ = some v) : w.cell? ⟨b, o, none⟩ = some (celq w b o) := by
  rw [celq, h]; rfl
theorem celq_later {W w' : World} {b o : Nat} (hb : Below W.heap.size W w') (h : W.cell? ⟨b, o, none⟩ = some (celq W b o)) : w'.cell? ⟨b, o, none⟩ = some (celq w' b o) := celq_of (cell_later hb h)
theorem fro_call {W w' : World} {b : Nat} (hb : Below W.heap.size W w') (h : ∀ o, W.frozen? ⟨b, o, none⟩ = false) (hl : b < W.heap.size) : ∀ o, w'.frozen? ⟨b, o, none⟩ = false := fun o => (hb.frozen (p := ⟨b, o, none⟩) hl).trans (h o)
theorem s3_far {w : World} {b b' : Nat} {u v x : Value} {o : Nat} {y : Value} (hn : b ≠ b') (h : w.cell? ⟨b', o, none⟩ = some y) : (((w.setCell ⟨b, 0, none⟩ u).setCell ⟨b, 1, none⟩ v).setCell ⟨b, 2, none⟩ x).cell? ⟨b', o, none⟩ = some y := by
  rw [World.cell?_setCell_other _ _ _ _ (by simp [hn]), World.cell?_setCell_other _ _ _ _ (by simp [hn]), World.cell?_setCell_other _ _ _ _ (by simp [hn])]; exact h
theorem s3_blk {w : World} {b b' : Nat} {u v x : Value} {cs : Array Value} (hn : b ≠ b') (h : ∀ o, w.cell? ⟨b', o, none⟩ = cs[o]?) : ∀ o, (((w.setCell ⟨b, 0, none⟩ u).setCell ⟨b, 1, none⟩ v).setCell ⟨b, 2, none⟩ x).cell? ⟨b', o, none⟩ = cs[o]? := by
  intro o
  rw [World.cell?_setCell_other _ _ _ _ (by simp [hn]), World.cell?_setCell_other _ _ _ _ (by simp [hn]), World.cell?_setCell_other _ _ _ _ (by simp [hn])]; exact h o
theorem s3_0 {w : World} {b : Nat} {u v x y : Value} (h : w.cell? ⟨b, 0, none⟩ = some y) : (((w.setCell ⟨b, 0, none⟩ u).setCell ⟨b, 1, none⟩ v).setCell ⟨b, 2, none⟩ x).cell? ⟨b, 0, none⟩ = some u := by
  rw [World.cell?_setCell_other _ _ _ _ (by simp), World.cell?_setCell_other _ _ _ _ (by simp)]; exact World.cell?_setCell_same _ _ _ h
theorem s3_1 {w : World} {b : Nat} {u v x y : Value} (h : w.cell? ⟨b, 1, none⟩ = some y) : (((w.setCell ⟨b, 0, none⟩ u).setCell ⟨b, 1, none⟩ v).setCell ⟨b, 2, none⟩ x).cell? ⟨b, 1, none⟩ = some v := by
  rw [World.cell?_setCell_other _ _ _ _ (by simp)]
  exact World.cell?_setCell_same _ _ _ ((World.cell?_setCell_other _ _ _ _ (by simp)).trans h)
theorem s3_2 {w : World} {b : Nat} {u v x y : Value} (h : w.cell? ⟨b, 2, none⟩ = some y) : (((w.setCell ⟨b, 0, none⟩ u).setCell ⟨b, 1, none⟩ v).setCell ⟨b, 2, none⟩ x).cell? ⟨b, 2, none⟩ = some x :=
  World.cell?_setCell_same _ _ _ ((World.cell?_setCell_other _ _ _ _ (by simp)).trans ((World.cell?_setCell_other _ _ _ _ (by simp)).trans h))
theorem celq_0 {w : World} {b : Nat} {u v x y : Value} (h : w.cell? ⟨b, 0, none⟩ = some y) : (((w.setCell ⟨b, 0, none⟩ u).setCell ⟨b, 1, none⟩ v).setCell ⟨b, 2, none⟩ x).cell? ⟨b, 0, none⟩ = some (celq (((w.setCell ⟨b, 0, none⟩ u).setCell ⟨b, 1, none⟩ v).setCell ⟨b, 2, none⟩ x) b 0) := celq_of (s3_0 h)
theorem celq_1 {w : World} {b : Nat} {u v x y : Value} (h : w.cell? ⟨b, 1, none⟩ = some y) : (((w.setCell ⟨b, 0, none⟩ u).setCell ⟨b, 1, none⟩ v).setCell ⟨b, 2, none⟩ x).cell? ⟨b, 1, none⟩ = some (celq (((w.setCell ⟨b, 0, none⟩ u).setCell ⟨b, 1, none⟩ v).setCell ⟨b, 2, none⟩ x) b 1) := celq_of (s3_1 h)
theorem celq_2 {w : World} {b : Nat} {u v x y : Value} (h : w.cell? ⟨b, 2, none⟩ = some y) : (((w.setCell ⟨b, 0, none⟩ u).setCell ⟨b, 1, none⟩ v).setCell ⟨b, 2, none⟩ x).cell? ⟨b, 2, none⟩ = some (celq (((w.setCell ⟨b, 0, none⟩ u).setCell ⟨b, 1, none⟩ v).setCell ⟨b, 2, none⟩ x) b 2) := celq_of (s3_2 h)
/-- New blocks: their cells, not frozen, also behind more of them. -/
theorem new_at {W : World} {n : Nat} (h : W.heap.size = n) (cs : Array Value) (t : TypeId) : ∀ o, (W.alloc (.cells cs t)).cell? ⟨n, o, none⟩ = cs[o]? := by
  intro o; subst h; rw [World.cell?_alloc_new]
theorem fro_new {W : World} {n : Nat} (h : W.heap.size = n) (cs : Array Value) (t : TypeId) : ∀ o, (W.alloc (.cells cs t)).frozen? ⟨n, o, none⟩ = false := by
  intro o; subst h; simp
theorem fro_more {W : World} {b : Nat} (hl : b < W.heap.size) (x : Obj) (h : ∀ o, W.frozen? ⟨b, o, none⟩ = false) : ∀ o, (W.alloc x).frozen? ⟨b, o, none⟩ = false := fro_call ((Below.refl W.heap.size W).alloc (Nat.le_refl _) x) h hl
theorem sz1 {W : World} {x : Obj} {n : Nat} (h : W.heap.size = n) : (W.alloc x).heap.size = n + 1 := by rw [World.size_alloc, h]
theorem lt_here {W : World} {x : Obj} {b : Nat} (h : b < W.heap.size) : b < (W.alloc x).heap.size := by rw [World.size_alloc]; omega
theorem lt_new {W : World} {x : Obj} {n : Nat} (h : W.heap.size = n) : n < (W.alloc x).heap.size := by rw [World.size_alloc]; omega
end Go.Proofs.Ytoalihdempcbjaa
