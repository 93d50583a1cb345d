/- weave's weaver in memory: putting a triangle. -/
import Derived.Test.YtoalihdempcbjaaWv3
namespace Go.Proofs.Ytoalihdempcbjaa
open Go.RowKit
open Go.Maps (Keyed)
set_option maxRecDepth 100000
set_option linter.unusedSimpArgs false
set_option linter.unusedVariables false
theorem tri_end {w w5 : World} {B b n c m bm g cap : Nat} {R : Rt} {ts : List T3} {p : Option Addr} {sp : Value} {D : Du} {t : T3} {o2 : Obj} (h : WvAt w B b R n ts sp (.slice p m c) bm D) (hm : ts.length = m)
    (k1 : w5.ownsRow B 51 3 (.slice (some ⟨g, 0, none⟩) (m + 1) cap) (m + 1) (fl3 ts ++ c3 t)) (k2 : (w.alloc o2).grownBy w5 (Value.slice p m c).ownBlock) (k3 : (Value.slice p m c).ownBlock = some g ∨ w.heap.size ≤ g) :
    Wv (w5.setCell ⟨b, 7, none⟩ (.slice (some ⟨g, 0, none⟩) (m + 1) cap)) B b R n (ts ++ [t]) ∧ Below B w (w5.setCell ⟨b, 7, none⟩ (.slice (some ⟨g, 0, none⟩) (m + 1) cap)) := by
  subst hm
  have hb : b < w.heap.size := blk_sz (by simp [cW]) h.cells
  have K2 : w.grownBy w5 (Value.slice p ts.length c).ownBlock := gb_more o2 _ k2
  have hgb : g ≠ b := by
    rcases k3 with k3 | k3
    · intro e; subst e; exact h.ntb k3
    · omega
  have nbm : some bm ≠ some b := some_ne h.nbm
  have s2 : Sps w5 B sp n ((spotsN R).take n) := World.ownsRow.kept h.sps K2 (row_apart h.sps h.trs (by decide))
  have m3 : MapS w5 bm n D := World.ownsMap.kept h.map K2 (map_row h.map h.trs)
  have C5 : ∀ o, w5.cell? ⟨b, o, none⟩ = (cW R sp bm (.slice p ts.length c))[o]? := fun o => (World.grownBy.cell_far K2 ⟨b, o, none⟩ hb (fun e => h.ntb e.symm)).trans (h.cells o)
  have F5 : ∀ o, w5.frozen? ⟨b, o, none⟩ = false := fun o => (World.grownBy.frozen_far K2 ⟨b, o, none⟩ hb (fun e => h.ntb e.symm)).trans (h.fro o)
  have GS := gb_set1 w5 b 7 (.slice (some ⟨g, 0, none⟩) (ts.length + 1) cap)
  refine ⟨⟨sp, .slice (some ⟨g, 0, none⟩) (ts.length + 1) cap, bm, D, ?_⟩, ?_⟩
  · exact
      { cells := st_blk C5 7 _ (by simp [cW])
        fro := fun o => (World.frozen?_setCell _ _ _ _).trans (F5 o)
        hBb := h.hBb
        hBm := h.hBm
        nbm := h.nbm
        sps := World.ownsRow.kept s2 GS (.inr h.nsb)
        map := World.ownsMap.kept m3 GS nbm
        holds := h.holds
        trs := by
          rw [Trs, fl3_app, fl3_one, List.length_append]
          exact World.ownsRow.kept k1 GS (.inr (some_ne hgb))
        nsb := h.nsb
        ntb := some_ne hgb }
  · have h2 := Below.grown (Below.refl B w) K2 (Nat.le_trans h.hBb (Nat.le_of_lt hb)) (fun k e => (World.ownsRow.lt h.trs k e).1)
    exact Below.setCell h2 h.hBb _
set_option maxHeartbeats 2000000 in
theorem tri_any (B b : Nat) (R : Rt) (x y z n : Nat) (ts : List T3) (hts : ts.length ≤ 10000) (w : World) (h : Wv w B b R n ts) :
    Calls Try.prog 36 #[.pointer (some ⟨b, 0, none⟩), .int .i64 (x : Int), .int .i64 (y : Int), .int .i64 (z : Int)] w fun e w' => e = .returned (.tuple #[]) ∧ Wv w' B b R n (ts ++ [(x, y, z)]) ∧ Below B w w' := by
  obtain ⟨sp, tp, bm, D, h⟩ := h
  obtain ⟨p, c, rfl⟩ := row_shape h.trs
  obtain ⟨i0, ji, jz0, jz1, jz2⟩ := info3
  obtain ⟨m, hm⟩ : ∃ m, ts.length = m := ⟨_, rfl⟩
  rw [hm] at h hts
  have HC := h.cells
  have HH := Lib.hid h
  have LB := blk_sz (by simp [cW]) h.cells
  have TP := Lib.hid (show w.ownsRow B 51 3 (.slice p m c) m (fl3 ts) from by have := h.trs; rw [hm] at this; exact this)
  have SL := Lib.hid (show (Value.slice p m c).ownBlock ≠ some b from h.ntb)
  have hB2 := Lib.hid (show B ≤ w.heap.size from Nat.le_trans h.hBb (Nat.le_of_lt LB))
  have HF := Lib.hid h.fro
  have HM := Lib.hid hm
  unfold cW at HC
  clear h hm
  go_enter Try.func36, Try.ntmps36
  go_wp2_with (at_builtin; refine wpList_append_lies _ rfl _ _ 46 rfl B 51 i0 (.agg #[.int .i64 0, .int .i64 0, .int .i64 0]) 3 24 Try.underlying46 ji jz0 jz1 jz2 rfl (by decide) (.slice p m c) m (fl3 ts) rfl (World.ownsRow.alloc TP.out _) ⟨w.heap.size, 0, none⟩ 1 1 (c3 (x, y, z)) rfl rfl (news_alloc w w.heap.size rfl _ _) (one3 _) (by omega) (by unfold maxLen; omega) (by omega) (le_alloc hB2.out) _ rfl (fun g cap w5 k1 k2 k3 k4 => ?_); have HC5 : ∀ o, w5.cell? ⟨b, o, none⟩ = (#[.int .i64 (R.r0 : Int), .int .i64 (R.r1 : Int), .int .i64 (R.r2 : Int), .int .i64 (R.r3 : Int), .int .i64 (R.m : Int), sp, .map (some bm), .slice p m c] : Array Value)[o]? := (fun o => (World.grownBy.cell_far k2 ⟨b, o, none⟩ (lt_here LB) (fun e => SL.out e.symm)).trans (blk_alloc (by simp) _ HC o)); have HF5 : ∀ o, w5.frozen? ⟨b, o, none⟩ = false := (fun o => (World.grownBy.frozen_far k2 ⟨b, o, none⟩ (lt_here LB) (fun e => SL.out e.symm)).trans (fro_more LB _ HF.out o)); have KK := Lib.hid (tri_end HH.out HM.out k1 k2 (k3.imp id (fun e => by rw [e]; exact le_alloc (Nat.le_refl _)))); clear k1 k2 k3 k4)
  go_end0
  exact ⟨rfl, KK.out⟩
end Go.Proofs.Ytoalihdempcbjaa
