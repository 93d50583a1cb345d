/- Stores into a block of which all cells are known. No condition. -/
import Derived.Test.YtoalihdempcbjaaHeld
namespace Go.Proofs.Ytoalihdempcbjaa
set_option linter.unusedSimpArgs false
set_option linter.unusedVariables false
open Go.RowKit
theorem st_blk {W : World} {b : Nat} {cs : Array Value} (h : ∀ o, W.cell? ⟨b, o, none⟩ = cs[o]?) (i : Nat) (v : Value) (hi : i < cs.size) : ∀ o, (W.setCell ⟨b, i, none⟩ v).cell? ⟨b, o, none⟩ = (cs.setIfInBounds i v)[o]? := by
  intro o
  by_cases ho : o = i
  · subst ho
    have h0 := h o
    rw [Array.getElem?_eq_getElem hi] at h0
    rw [World.cell?_setCell_same _ _ _ h0, Array.getElem?_setIfInBounds_self_of_lt hi]
  · rw [World.cell?_setCell_other _ _ _ _ (by first | (simp [ho]; done) | (simp; omega)), h o, Array.getElem?_setIfInBounds_ne (by omega)]
theorem st3_blk {W : World} {b : Nat} {cs cs' : Array Value} (h : ∀ o, W.cell? ⟨b, o, none⟩ = cs[o]?) {i j k : Nat} {u v x : Value} (hi : i < cs.size) (hj : j < cs.size) (hk : k < cs.size) (e : ((cs.setIfInBounds i u).setIfInBounds j v).setIfInBounds k x = cs') :
    ∀ o, (((W.setCell ⟨b, i, none⟩ u).setCell ⟨b, j, none⟩ v).setCell ⟨b, k, none⟩ x).cell? ⟨b, o, none⟩ = cs'[o]? := by
  subst e
  exact st_blk (st_blk (st_blk h i u hi) j v (by simpa using hj)) k x (by simpa using hk)
theorem st_far {W : World} {b b' : Nat} {cs : Array Value} (hn : b' ≠ b) (h : ∀ o, W.cell? ⟨b, o, none⟩ = cs[o]?) {i : Nat} {v : Value} : ∀ o, (W.setCell ⟨b', i, none⟩ v).cell? ⟨b, o, none⟩ = cs[o]? := by
  intro o
  rw [← h o]
  exact World.cell?_setCell_other _ _ _ _ (by simp [hn])
theorem st3_far {W : World} {b b' : Nat} {cs : Array Value} (hn : b' ≠ b) (h : ∀ o, W.cell? ⟨b, o, none⟩ = cs[o]?) {i j k : Nat} {u v x : Value} : ∀ o, (((W.setCell ⟨b', i, none⟩ u).setCell ⟨b', j, none⟩ v).setCell ⟨b', k, none⟩ x).cell? ⟨b, o, none⟩ = cs[o]? :=
  st_far hn (st_far hn (st_far hn h))
/-- Twelve stores, one behind the other, into a block of twelve cells. -/
theorem st12_blk {W : World} {b : Nat} {cs : Array Value} (h : ∀ o, W.cell? ⟨b, o, none⟩ = cs[o]?) (hs : cs.size = 12) (u0 u1 u2 u3 u4 u5 u6 u7 u8 u9 u10 u11 : Value) :
    ∀ o, ((((((((((((W.setCell ⟨b, 0, none⟩ u0).setCell ⟨b, 1, none⟩ u1).setCell ⟨b, 2, none⟩ u2).setCell ⟨b, 3, none⟩ u3).setCell ⟨b, 4, none⟩ u4).setCell ⟨b, 5, none⟩ u5).setCell ⟨b, 6, none⟩ u6).setCell ⟨b, 7, none⟩ u7).setCell ⟨b, 8, none⟩ u8).setCell ⟨b, 9, none⟩ u9).setCell ⟨b, 10, none⟩ u10).setCell ⟨b, 11, none⟩ u11).cell? ⟨b, o, none⟩ = (#[u0, u1, u2, u3, u4, u5, u6, u7, u8, u9, u10, u11] : Array Value)[o]? := by
  have e := st_blk (st_blk (st_blk (st_blk (st_blk (st_blk (st_blk (st_blk (st_blk (st_blk (st_blk (st_blk h 0 u0 (by omega)) 1 u1 (by simp [hs])) 2 u2 (by simp [hs])) 3 u3 (by simp [hs])) 4 u4 (by simp [hs])) 5 u5 (by simp [hs])) 6 u6 (by simp [hs])) 7 u7 (by simp [hs])) 8 u8 (by simp [hs])) 9 u9 (by simp [hs])) 10 u10 (by simp [hs])) 11 u11 (by simp [hs])
  refine fun o => (e o).trans (congrArg (fun a : Array Value => a[o]?) ?_)
  clear e
  obtain ⟨c0, c1, c2, c3, c4, c5, c6, c7, c8, c9, c10, c11, hc⟩ := list12 (l := cs.toList) (by simpa using hs)
  apply Array.ext'
  simp only [Array.toList_setIfInBounds, hc, List.set_cons_zero, List.set_cons_succ]
end Go.Proofs.Ytoalihdempcbjaa
