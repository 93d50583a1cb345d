/- What view.Tiles and relievoref21.Tiles answer, for all sides and picks: the same. -/
import Derived.Test.YtoalihdempcbjaaRTilesG
namespace Go.Proofs.Ytoalihdempcbjaa
open Go.RowKit
set_option maxRecDepth 100000
set_option linter.unusedSimpArgs false
set_option linter.unusedVariables false
theorem tiles_no (W H : Int) (h : am2 1 64 W H = false) (v : Value) (w : World) :
    Calls Try.prog 16 #[.int .i64 W, .int .i64 H, v] w fun e w' => e = .returned (.tuple #[.slice none 0 0, .bool false]) ∧ Below w.heap.size w w' := by
  have H := Lib.hid h
  clear h
  go_enter Try.func16, Try.ntmps16
  go_wp2_with (go_at_call 26; ((with_reducible refine (among2 1 64 W _ false H.out _ _ (by (repeat (first | (with_reducible assumption) | (focus ((with_reducible refine new_at ?_ _ _); (repeat (first | (with_reducible rfl) | (with_reducible refine sz1 ?_))); done)) | (with_reducible refine blk_alloc (by simp) _ ?_) | (with_reducible refine blk_drew ?_))))).mono ?_); rintro e w1 ⟨rfl, hb1⟩))
  go_returns
  exact ⟨by simp, by (repeat' (first | (with_reducible exact Below.refl _ _) | (with_reducible refine bstep (by with_reducible assumption) ?_) | (with_reducible refine Below.alloc ?_ ?_ _) | (with_reducible refine Below.drew ?_) | (with_reducible refine below_drewN ?_ _) | (with_reducible refine Below.setCell ?_ ?_ _) | go_size))⟩
theorem rtiles_no (W H : Int) (h : am2 1 64 W H = false) (v : Value) (w : World) :
    Calls Try.prog 17 #[.int .i64 W, .int .i64 H, v] w fun e w' => e = .returned (.tuple #[.slice none 0 0, .bool false]) ∧ Below w.heap.size w w' := by
  have hn : ¬ ((1 ≤ W ∧ W ≤ 64) ∧ (1 ≤ H ∧ H ≤ 64)) := fun k => by rw [am2_iff.2 k] at h; cases h
  clear h
  by_cases hW : 1 ≤ W ∧ W ≤ 64
  · have R1 := Lib.hid (ram (lo := 1) (hi := 64) (a := W) (b := true) (am1_iff.2 hW))
    have R2 := Lib.hid (ram (lo := 1) (hi := 64) (a := H) (b := false) (by rw [Bool.eq_false_iff]; intro k; exact hn ⟨hW, am1_iff.1 k⟩))
    clear hn hW
    go_enter Try.func17, Try.ntmps17
    go_wp2_with (first
      | (go_at_call 30; ((with_reducible refine (R1.out _).mono ?_); rintro e w1 ⟨rfl, hb1⟩))
      | (go_at_call 30; ((with_reducible refine (R2.out _).mono ?_); rintro e w2 ⟨rfl, hb2⟩)))
    go_returns
    exact ⟨by simp, by (repeat' (first | (with_reducible exact Below.refl _ _) | (with_reducible refine bstep (by with_reducible assumption) ?_) | (with_reducible refine Below.alloc ?_ ?_ _) | (with_reducible refine Below.drew ?_) | (with_reducible refine below_drewN ?_ _) | (with_reducible refine Below.setCell ?_ ?_ _) | go_size))⟩
  · have R1 := Lib.hid (ram (lo := 1) (hi := 64) (a := W) (b := false) (by rw [Bool.eq_false_iff]; intro k; exact hW (am1_iff.1 k)))
    clear hn hW
    go_enter Try.func17, Try.ntmps17
    go_wp2_with (go_at_call 30; ((with_reducible refine (R1.out _).mono ?_); rintro e w1 ⟨rfl, hb1⟩))
    go_returns
    exact ⟨by simp, by (repeat' (first | (with_reducible exact Below.refl _ _) | (with_reducible refine bstep (by with_reducible assumption) ?_) | (with_reducible refine Below.alloc ?_ ?_ _) | (with_reducible refine Below.drew ?_) | (with_reducible refine below_drewN ?_ _) | (with_reducible refine Below.setCell ?_ ?_ _) | go_size))⟩
def TlOut (w : World) (t : Bool) (N : Nat) (zs : List Int) (e : Ending) (w' : World) : Prop :=
  ∃ p c, e = .returned (.tuple #[.slice p N c, .bool t]) ∧ Tls w' w.heap.size (.slice p N c) N zs ∧ Below w.heap.size w w'
def tlN (W H : Int) : Nat := if am2 1 64 W H then nT H * nT W else 0
def tlZ (W H : Int) (ps : List Int) : List Int := if am2 1 64 W H then tilesL W H ps else []
theorem tls_shape {w : World} {B n : Nat} {v : Value} {zs : List Int} (h : Tls w B v n zs) : ∃ p c, v = .slice p n c := by
  rcases h.2 with ⟨rfl, rfl⟩ | ⟨g, cap, cur, rfl, _⟩
  · exact ⟨_, _, rfl⟩
  · exact ⟨_, _, rfl⟩
theorem ints_hp {w : World} {v : Value} {ps : List Int} (h : Ints w v ps) : ∃ p c, v = .slice p ps.length c ∧ ∀ j, j < ps.length → ∃ b off, p = some ⟨b, off, none⟩ ∧ b < w.heap.size ∧ w.cell? ⟨b, off + j, none⟩ = some (.int .i64 (ps.getD j 0)) := by
  rcases h with ⟨rfl, p, c, rfl⟩ | ⟨b, off, c, rfl, _, _, _, hlt, hc⟩
  · exact ⟨p, c, rfl, fun j hj => absurd hj (by simp)⟩
  · exact ⟨_, c, rfl, fun j hj => ⟨b, off, rfl, hlt, hc j hj⟩⟩
theorem tiles_all (W H : Int) (ps : List Int) (v : Value) (w : World) (hn : ps.length ≤ 2000) (hv : Ints w v ps) :
    Calls Try.prog 16 #[.int .i64 W, .int .i64 H, v] w (TlOut w (am2 1 64 W H) (tlN W H) (tlZ W H ps)) := by
  unfold tlN tlZ
  cases h : am2 1 64 W H
  · exact (tiles_no W H h v w).mono fun e w' ⟨he, hb⟩ => ⟨_, _, he, tls_nil _ _ _ rfl, hb⟩
  · obtain ⟨⟨a1, a2⟩, a3, a4⟩ := am2_iff.1 h
    obtain ⟨p, c, rfl, hp⟩ := ints_hp hv
    refine (tiles_any W H ps _ c p a1 a2 a3 a4 w rfl hn hp).mono fun e w' ⟨v, he, ht, hb⟩ => ?_
    obtain ⟨q, d, rfl⟩ := tls_shape ht
    exact ⟨q, d, he, ht, hb⟩
theorem rtiles_all (W H : Int) (ps : List Int) (v : Value) (w : World) (hn : ps.length ≤ 2000) (hv : Ints w v ps) :
    Calls Try.prog 17 #[.int .i64 W, .int .i64 H, v] w (TlOut w (am2 1 64 W H) (tlN W H) (tlZ W H ps)) := by
  unfold tlN tlZ
  cases h : am2 1 64 W H
  · exact (rtiles_no W H h v w).mono fun e w' ⟨he, hb⟩ => ⟨_, _, he, tls_nil _ _ _ rfl, hb⟩
  · obtain ⟨⟨a1, a2⟩, a3, a4⟩ := am2_iff.1 h
    obtain ⟨p, c, rfl, hp⟩ := ints_hp hv
    refine (rtiles_any W H ps _ c p a1 a2 a3 a4 w rfl hn hp).mono fun e w' ⟨v, he, ht, hb⟩ => ?_
    obtain ⟨q, d, rfl⟩ := tls_shape ht
    exact ⟨q, d, he, ht, hb⟩
theorem tlN_le (W H : Int) : tlN W H ≤ 256 := by
  unfold tlN
  split
  · rename_i h
    obtain ⟨⟨a1, a2⟩, a3, a4⟩ := am2_iff.1 h
    have b := nT_bound a1 a2
    have c := nT_bound a3 a4
    exact mul_sm c.2.1 b.2.1 (Nat.le_refl _)
  · omega
end Go.Proofs.Ytoalihdempcbjaa
