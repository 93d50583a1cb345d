/- WeaveTight's memory: the map of edges, the row of spots used. -/
import Derived.Test.YtoalihdempcbjaaTightK
import Derived.Test.YtoalihdempcbjaaAlong
import Derived.Test.YtoalihdempcbjaaAlive13
import Derived.Test.YtoalihdempcbjaaWFlat
import Derived.Laws.MakeOwn
import Derived.Laws.OwnMore
namespace Go.Proofs.Ytoalihdempcbjaa
open Go.RowKit
open Go.Maps (Keyed)
set_option maxRecDepth 100000
set_option linter.unusedSimpArgs false
set_option linter.unusedVariables false
theorem infoB : (Try.prog.info? 4).map (fun i => (i.zero, i.size, i.bytes)) = some (some (.bool false), 1, 1) := by kernel_rfl
theorem mk_used (n : Nat) (hn : n ≤ 1000) (w : World) : (Instr.makeSlice 54 (.int .i64 (n : Int)) (.int .i64 (n : Int))).run Try.prog w = .ok (.slice (some ⟨w.heap.size, 0, none⟩) n n) (w.alloc (.cells (madeCells #[.bool false] n) 4)) := by
  have h := infoB
  cases hi : Try.prog.info? 4 with
  | none => rw [hi] at h; cases h
  | some i =>
    rw [hi] at h
    simp only [Option.map_some, Option.some.injEq, Prod.mk.injEq] at h
    obtain ⟨hz, hs, hb⟩ := h
    have := run_makeSlice w 54 4 i (.bool false) Try.underlying54 hi hz .i64 .i64 (n : Int) (n : Int) (by omega) (by omega) (by rw [hs]; omega) (by rw [hb]; omega) (by omega)
    rw [hs, show (Value.bool false).cells = #[Value.bool false] from rfl] at this
    simpa using this
theorem blk_sz1 {w : World} {b o : Nat} {v : Value} (h : w.cell? ⟨b, o, none⟩ = some v) : b < w.heap.size := by
  by_cases hl : b < w.heap.size
  · exact hl
  · exfalso
    have : w.heap[b]? = none := Array.getElem?_eq_none (by omega)
    simp [World.cell?, this] at h
theorem cell_kept {w w' : World} {b bm o : Nat} (h : w.grownBy w' (some bm)) (hl : b < w.heap.size) (hn : bm ≠ b) : w'.cell? ⟨b, o, none⟩ = w.cell? ⟨b, o, none⟩ := World.cell?_of_block (h.block b hl (by simp only [ne_eq, Option.some.injEq]; exact fun e => hn e.symm))
theorem fro_kept {w w' : World} {b bm o : Nat} (h : w.grownBy w' (some bm)) (hl : b < w.heap.size) (hn : bm ≠ b) : w'.frozen? ⟨b, o, none⟩ = w.frozen? ⟨b, o, none⟩ := World.frozen?_of_block (h.block b hl (by simp only [ne_eq, Option.some.injEq]; exact fun e => hn e.symm))
theorem below_kept {B bm : Nat} {w2 w w' : World} (h : Below B w2 w) (k : w.grownBy w' (some bm)) (hB : B ≤ bm) (hm : bm < w.heap.size) : Below B w2 w' :=
  ⟨k.os.trans h.os, k.tape.trans h.tape, k.output.trans h.output, Nat.le_trans h.size k.size, fun i hi => (k.block i (by omega) (by simp only [ne_eq, Option.some.injEq]; omega)).trans (h.block i hi)⟩
/-- The state of the law: the edges L are gone along. -/
structure TgW (B bm gu N : Nat) (w2 : World) (L : List (Nat × Nat)) (wr : World) : Prop where
  map : ∃ D, wr.ownsMap Try.prog 55 (plainElem Try.prog 3) bm L.length D ∧ HoldsE L D
  used : ∀ o, o < N → wr.cell? ⟨gu, o, none⟩ = some (.bool (L.any fun e => e.1 == o))
  fro : ∀ o, wr.frozen? ⟨gu, o, none⟩ = false
  nbm : bm ≠ gu
  hgu : B ≤ gu
  hbm : B ≤ bm
  low : Below B w2 wr
theorem tg_new (w2 : World) (N : Nat) : TgW w2.heap.size w2.heap.size (w2.heap.size + 1) N w2 [] ((w2.alloc (.map #[] 0)).alloc (.cells (madeCells #[.bool false] N) 4)) := by
  have hs : (w2.alloc (.map #[] 0)).heap.size = w2.heap.size + 1 := World.size_alloc _ _
  refine ⟨⟨.map [], World.ownsMap.alloc (World.ownsMap_made w2 Try.prog _ _) _, holdsE_0⟩, fun o ho => ?_, fro_new hs _ _, by omega, by omega, by omega, ?_⟩
  · rw [new_at hs _ _ o, ← Array.getElem?_toList, toList_madeCells_one, List.getElem?_replicate, if_pos ho]
    simp
  · exact ((Below.refl _ _).alloc (Nat.le_refl _) _).alloc (by rw [hs]; omega) _
theorem tg_drew {B bm gu N : Nat} {w2 wr : World} {L : List (Nat × Nat)} (h : TgW B bm gu N w2 L wr) : TgW B bm gu N w2 L wr.drew := ⟨h.map, h.used, h.fro, h.nbm, h.hgu, h.hbm, h.low.drew⟩
theorem tg_drewN {B bm gu N : Nat} {w2 wr : World} {L : List (Nat × Nat)} (h : TgW B bm gu N w2 L wr) (n : Nat) : TgW B bm gu N w2 L (wr.drewN n) := ⟨h.map, h.used, h.fro, h.nbm, h.hgu, h.hbm, below_drewN h.low n⟩
/-- What a lookup answers. -/
theorem tg_look {B bm gu N : Nat} {w2 wr : World} {L : List (Nat × Nat)} (h : TgW B bm gu N w2 L wr) (a b : Nat) (ha : a < 1000000) (hb : b < 1000000) :
    (Instr.lookup 53 (.map (some bm)) (.agg #[.int .i64 (a : Int), .int .i64 (b : Int)]) false).run Try.prog wr = .ok (.int .i64 (if (a, b) ∈ L then 1 else 0)) wr := by
  obtain ⟨D, hm, hD⟩ := h.map
  obtain ⟨c, hrun, hat, _⟩ := hm.lookup_int law2 Try.underlying53 Try.underlying3 (zeroI _) (keyOf_2 a b ha hb)
  have : c = if (a, b) ∈ L then 1 else 0 := lit_int (hat.symm.trans (hD a b ha hb))
  rw [← this]
  exact hrun
/-- An edge more: the entry laid and stored, its first spot marked. -/
theorem tg_next {B bm gu N : Nat} {w2 wr : World} {L : List (Nat × Nat)} (h : TgW B bm gu N w2 L wr) (a b : Nat) (ha : a < N) (hN : N ≤ 1000) (hb : b < 1000000) (hL : L.length < 100000) :
    ∃ (v0 : Value) (st : Nat) (u1 u2 : World), (Instr.lookup 53 (.map (some bm)) (.agg #[.int .i64 (a : Int), .int .i64 (b : Int)]) false).run Try.prog u1 = .ok (.int .i64 (if (a, b) ∈ L then 1 else 0)) u1 ∧ (Instr.mapEntry 53 (.map (some bm)) (.agg #[.int .i64 (a : Int), .int .i64 (b : Int)])).run Try.prog wr = .ok (.tuple #[v0, .int .i64 (st : Int)]) u1 ∧ (Instr.entryStore 53 (.map (some bm)) (.int .i64 (st : Int)) (.int .i64 1)).run Try.prog u1 = .ok () u2 ∧
      (∃ bb, u2.cell? ⟨gu, a, none⟩ = some (.bool bb)) ∧ (∀ o, u2.frozen? ⟨gu, o, none⟩ = false) ∧ Below B w2 u2 ∧ TgW B bm gu N w2 (L ++ [(a, b)]) (u2.setCell ⟨gu, a, none⟩ (.bool true)) := by
  obtain ⟨D, hm, hD⟩ := h.map
  obtain ⟨v0, st, u1, u2, r1, r2, r3, r4, n', D1, r5, r6⟩ := own_entry hm klaw2 law2 Try.underlying53 (by simp only [maxLen]; omega) (fun u => zeroI u) (plainElem_int Try.underlying3 (by decide)) (keyOf_2 a b (by omega) hb) (.int .i64 1) (plainElem_int Try.underlying3 (by decide))
  have hlt : gu < wr.heap.size := (blk_sz1 (h.used a ha))
  have hc : ∀ o, u2.cell? ⟨gu, o, none⟩ = wr.cell? ⟨gu, o, none⟩ := fun o => cell_kept r4 hlt h.nbm
  have hf : ∀ o, u2.frozen? ⟨gu, o, none⟩ = false := fun o => (fro_kept r4 hlt h.nbm).trans (h.fro o)
  have hlow : Below B w2 u2 := below_kept h.low r4 h.hbm hm.lt
  have hlk : (Instr.lookup 53 (.map (some bm)) (.agg #[.int .i64 (a : Int), .int .i64 (b : Int)]) false).run Try.prog u1 = .ok (.int .i64 (if (a, b) ∈ L then 1 else 0)) u1 := by
    obtain ⟨c, hrun, hat, _⟩ := r5.lookup_int law2 Try.underlying53 Try.underlying3 (zeroI _) (keyOf_2 a b (by omega) hb)
    have : c = if (a, b) ∈ L then 1 else 0 := lit_int (hat.symm.trans (r6.trans (hD a b (by omega) hb)))
    rw [← this]
    exact hrun
  refine ⟨v0, st, u1, u2, hlk, r1, r2, ⟨_, (hc a).trans (h.used a ha)⟩, hf, hlow, ⟨⟨_, (r3.setCell (a := ⟨gu, a, none⟩) h.nbm _).mono (by simp), holdsE_next hD hm.isMap (by omega) hb⟩, fun o ho => ?_, fun o => (World.frozen?_setCell _ _ _ _).trans (hf o), h.nbm, h.hgu, h.hbm, hlow.setCell h.hgu _⟩⟩
  by_cases e : o = a
  · subst e
    rw [World.cell?_setCell_same' _ _ _ (by rw [hc, h.used o ho]; rfl)]
    simp
  · rw [World.cell?_setCell_other _ _ _ _ (by simp [e]), hc, h.used o ho]
    have : (a == o) = false := by simp; exact fun k => e k.symm
    simp [this]
end Go.Proofs.Ytoalihdempcbjaa
