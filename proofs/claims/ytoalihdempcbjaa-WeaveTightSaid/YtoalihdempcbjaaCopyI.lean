/- What relievoref00.CopyInts and SameInts answer: the same numbers as new memory (no more than 2000); two slices of the same numbers are the same. -/
import Derived.Test.YtoalihdempcbjaaSlices
import Derived.Test.YtoalihdempcbjaaBlk
import Derived.Deep.AppendLies
import Derived.Deep.LoopGhost
import Derived.Deep.DeepCutAuto
namespace Go.Proofs.Ytoalihdempcbjaa
open Go.RowKit
set_option maxRecDepth 100000
set_option linter.unusedSimpArgs false
set_option linter.unusedVariables false
theorem infoI : ∃ i, Try.prog.info? 3 = some i ∧ i.zero = some (Value.int .i64 0) ∧ i.size = 1 ∧ i.bytes = 8 := ⟨_, rfl, rfl, rfl, rfl⟩
theorem ints_of_owns {w : World} {B n : Nat} {v : Value} {zs : List Int} (h : w.ownsRow B 3 1 v n (zs.map (Value.int .i64))) (h0 : 0 < n) : Ints w v zs := by
  obtain ⟨hl, h | ⟨g, cap, cur, rfl, hb, hh, h1, h2, h3, h4⟩⟩ := h
  · exact absurd h.2 (by omega)
  · have ln : zs.length = n := by simpa using hl
    have hg : g < w.heap.size := by
      rcases Nat.lt_or_ge g w.heap.size with h | h
      · exact h
      · rw [Array.getElem?_eq_none h] at hh; cases hh
    refine .inr ⟨g, 0, cap, by rw [ln], by omega, by omega, h2, hg, fun j hj => ?_⟩
    have e : (zs.map (Value.int .i64))[j]? = some (.int .i64 (zs.getD j 0)) := by simp [List.getD, hj]
    rw [Nat.zero_add, cell_of_row _ _ _ _ _ _ hh, ← e, ← h4, List.getElem?_take, if_pos (by omega)]
    simp
theorem ints_later {w w' : World} {v : Value} {zs : List Int} (hb : Below w.heap.size w w') (h : Ints w v zs) : Ints w' v zs := by
  rcases h with h | ⟨bl, off, c, h1, h2, h3, h4, h5, h6⟩
  · exact .inl h
  · exact .inr ⟨bl, off, c, h1, h2, h3, h4, Nat.lt_of_lt_of_le h5 hb.size, fun j hj => (hb.cell (p := ⟨bl, off + j, none⟩) h5).trans (h6 j hj)⟩
theorem heap_alloc_lastI (w : World) (o : Obj) : (w.alloc o).heap[w.heap.size]? = some o := by
  show (w.heap.push o)[w.heap.size]? = some o
  simp
theorem owns_newI {w : World} (t : TypeId) : (w.alloc (.cells #[] t)).ownsRow w.heap.size t 1 (.slice (some ⟨w.heap.size, 0, none⟩) 0 0) 0 [] :=
  ⟨by simp, .inr ⟨w.heap.size, 0, #[], rfl, Nat.le_refl _, heap_alloc_lastI w _, Nat.le_refl _, by decide, by simp, by simp⟩⟩
theorem copyi_some (zs : List Int) (n : Nat) (hz : zs.length = n) (b off c : Nat) (hn : n ≤ 2000) (g1 : 0 < n) (g2 : n ≤ c) (g3 : c ≤ maxLen) (w : World) (hlt : b < w.heap.size) (hcell : ∀ j, j < n → w.cell? ⟨b, off + j, none⟩ = some (.int .i64 (zs.getD j 0))) :
    Calls Try.prog 15 #[.slice (some ⟨b, off, none⟩) n c] w fun e w' => ∃ u, e = .returned u ∧ Ints w' u zs ∧ Below w.heap.size w w' := by
  obtain ⟨i0, hi, hz0, hz1, hz2⟩ := infoI
  have ml : (maxLen : Nat) = maxLen := rfl
  go_enter Try.func15, Try.ntmps15
  go_wp2_with (at_builtin; refine wpList_append_lies _ rfl _ _ 26 rfl w.heap.size 3 i0 (.int .i64 0) 1 8 Try.underlying26 hi hz0 hz1 hz2 rfl (by decide) _ _ _ rfl (owns_newI _) ⟨b, off, none⟩ n c (zs.map (Value.int .i64)) rfl (by simp [hz]) (fun j u hu => ?_) (fun u hu => ?_) g1 (by unfold maxLen; omega) (by omega) (by rw [World.size_alloc]; omega) _ rfl (fun g cap w' h1 h2 h3 h4 => ?_))
  case refine_1 =>
    rw [List.getElem?_map, Option.map_eq_some_iff] at hu
    obtain ⟨o, ho, rfl⟩ := hu
    rw [List.getElem?_eq_some_iff] at ho
    obtain ⟨hlo, rfl⟩ := ho
    have := hcell j (by omega)
    rw [List.getD_eq_getElem?_getD, List.getElem?_eq_getElem hlo] at this
    exact this
  case refine_2 =>
    rw [List.mem_map] at hu
    obtain ⟨o, _, rfl⟩ := hu
    rfl
  rw [Nat.zero_add, List.nil_append] at h1
  have hw : w.heap.size ≤ g := by
    rcases h3 with h | h
    · have h' : some w.heap.size = some g := h
      have := Option.some.inj h'; omega
    · rw [World.size_alloc] at h; omega
  have hP : Ints w' (.slice (some ⟨g, 0, none⟩) n cap) zs := ints_of_owns h1 g1
  have hB : Below w.heap.size w w' := Below.grown ((Below.refl _ _).alloc (Nat.le_refl _) _) h2 (by rw [World.size_alloc]; omega) (fun k hk => by have hk' : some w.heap.size = some k := hk; have := Option.some.inj hk'; omega)
  go_returns
  exact ⟨.slice (some ⟨g, 0, none⟩) n cap, by simp, hP, hB⟩
theorem copyi_nil (p : Option Addr) (c : Nat) (w : World) :
    Calls Try.prog 15 #[.slice p 0 c] w fun e w' => ∃ q d, e = .returned (.slice q 0 d) ∧ Below w.heap.size w w' := by
  have e0 : ∀ w, Sem.run Try.prog (pure (#[] : Array Value)) w = .ok #[] w := fun _ => rfl
  have e1 : ∀ a w, Sem.run Try.prog (storeCells a []) w = .ok () w := fun _ _ => rfl
  cases p <;>
  · go_enter Try.func15, Try.ntmps15
    go_wp2
    go_returns
    exact ⟨_, _, by simp; exact ⟨rfl, rfl⟩, by (repeat' (first | (with_reducible exact Below.refl _ _) | (with_reducible refine bstep (by with_reducible assumption) ?_) | (with_reducible refine Below.alloc ?_ ?_ _) | (with_reducible refine Below.drew ?_) | (with_reducible refine below_drewN ?_ _) | (with_reducible refine Below.setCell ?_ ?_ _) | go_size))⟩
theorem copyi_none (p : Option Addr) (c : Nat) (w : World) :
    Calls Try.prog 15 #[.slice p 0 c] w fun e w' => ∃ u, e = .returned u ∧ Ints w' u [] ∧ Below w.heap.size w w' :=
  (copyi_nil p c w).mono fun e w' ⟨q, d, he, hb⟩ => ⟨_, he, .inl ⟨rfl, q, d, rfl⟩, hb⟩
theorem copyi_any (zs : List Int) (v : Value) (hn : zs.length ≤ 2000) (w : World) (hv : Ints w v zs) :
    Calls Try.prog 15 #[v] w fun e w' => ∃ u, e = .returned u ∧ Ints w' u zs ∧ Below w.heap.size w w' := by
  rcases hv with ⟨rfl, p, c, rfl⟩ | ⟨b, off, c, rfl, h1, h2, h3, h4, h5⟩
  · exact copyi_none p c w
  · exact copyi_some zs zs.length rfl b off c hn h1 h2 h3 w h4 h5
def SiRel (n S : Nat) (w : World) (k : Nat) (i : Value) (wr : World) : Prop := ∃ j, j ≤ n ∧ k = n - j ∧ i = .int .i64 (j : Int) ∧ Below S w wr
set_option maxHeartbeats 4000000 in
theorem same_ints (zs : List Int) (u v : Value) (w : World) (hu : Ints w u zs) (hv : Ints w v zs) :
    Calls Try.prog 18 #[u, v] w fun e w' => e = .returned (.bool true) ∧ Below w.heap.size w w' := by
  rcases hu with ⟨rfl, p, c, rfl⟩ | ⟨b, off, c, rfl, h0, h2, h3, h4, h5⟩
  · rcases hv with ⟨_, p', c', rfl⟩ | ⟨b, off, c', rfl, h0, _⟩
    · go_enter Try.func18, Try.ntmps18
      go_wp2_with fail
      go_loopg [5] 0 (fun k i wr => SiRel 0 w.heap.size w k i wr)
      case atStart => exact ⟨0, by omega, rfl, rfl, by (repeat' (first | (with_reducible exact Below.refl _ _) | (with_reducible refine bstep (by with_reducible assumption) ?_) | (with_reducible refine Below.alloc ?_ ?_ _) | (with_reducible refine Below.drew ?_) | (with_reducible refine below_drewN ?_ _) | (with_reducible refine Below.setCell ?_ ?_ _) | go_size))⟩
      case round =>
        obtain ⟨j, hj, rfl, rfl, hb⟩ := hrel
        obtain rfl : j = 0 := by omega
        have HB := Lib.hid hb
        clear hb
        go_wp2_with fail
        have HB' := HB.out
        go_returns
        exact ⟨by simp, by (repeat' (first | (with_reducible exact Below.refl _ _) | (with_reducible refine bstep (by with_reducible assumption) ?_) | (with_reducible refine Below.alloc ?_ ?_ _) | (with_reducible refine Below.drew ?_) | (with_reducible refine below_drewN ?_ _) | (with_reducible refine Below.setCell ?_ ?_ _) | go_size))⟩
    · exact absurd h0 (by simp)
  · rcases hv with ⟨rfl, _⟩ | ⟨b', off', c', rfl, _, g2, g3, g4, g5⟩
    · exact absurd h0 (by simp)
    have H5 := Lib.hid h5
    have G5 := Lib.hid g5
    clear h5 g5
    obtain ⟨n, hn⟩ : ∃ n, zs.length = n := ⟨_, rfl⟩
    rw [hn] at h0 h2 g2 H5 G5 ⊢
    go_enter Try.func18, Try.ntmps18
    go_wp2_with fail
    go_loopg [5] n (fun k i wr => SiRel n w.heap.size w k i wr)
    case atStart => exact ⟨0, by omega, rfl, rfl, by (repeat' (first | (with_reducible exact Below.refl _ _) | (with_reducible refine bstep (by with_reducible assumption) ?_) | (with_reducible refine Below.alloc ?_ ?_ _) | (with_reducible refine Below.drew ?_) | (with_reducible refine below_drewN ?_ _) | (with_reducible refine Below.setCell ?_ ?_ _) | go_size))⟩
    case round =>
      obtain ⟨j, hj, rfl, rfl, hb⟩ := hrel
      have HB := Lib.hid hb
      by_cases hlt' : j < n
      · have x0 := (hb.cell (p := ⟨b, off + j, none⟩) h4).trans (H5.out j hlt')
        have y0 := (hb.cell (p := ⟨b', off' + j, none⟩) g4).trans (G5.out j hlt')
        have hj0 : (0 : Int) ≤ (j : Int) := by omega
        have hj1 : (j : Int) < (n : Int) := by omega
        clear hb
        go_wp2_with fail
        go_quiet (fail)
        go_wp2_with fail
        have HB' := HB.out
        go_roundg (n - (j + 1))
        case measure => omega
        case rel => exact ⟨j + 1, by omega, rfl, by first | (simp; done) | (simp; exact w64 (by omega) (by have := h3; unfold maxLen at this; omega)), by (repeat' (first | (with_reducible exact Below.refl _ _) | (with_reducible refine bstep (by with_reducible assumption) ?_) | (with_reducible refine Below.alloc ?_ ?_ _) | (with_reducible refine Below.drew ?_) | (with_reducible refine below_drewN ?_ _) | (with_reducible refine Below.setCell ?_ ?_ _) | go_size))⟩
      · obtain rfl : j = n := by omega
        have hj1 : ¬ ((j : Int) < (j : Int)) := by omega
        clear hb
        go_wp2_with fail
        have HB' := HB.out
        go_returns
        exact ⟨by simp, by (repeat' (first | (with_reducible exact Below.refl _ _) | (with_reducible refine bstep (by with_reducible assumption) ?_) | (with_reducible refine Below.alloc ?_ ?_ _) | (with_reducible refine Below.drew ?_) | (with_reducible refine below_drewN ?_ _) | (with_reducible refine Below.setCell ?_ ?_ _) | go_size))⟩
end Go.Proofs.Ytoalihdempcbjaa
