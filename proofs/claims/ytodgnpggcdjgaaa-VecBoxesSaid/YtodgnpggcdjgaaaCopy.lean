/- What relievoref00.CopyVs answers: the same points as new memory. Condition: no more than 2000 points. -/
import Derived.Test.YtodgnpggcdjgaaaBound
import Derived.Deep.AppendLies
namespace Go.Proofs.Ytodgnpggcdjgaaa
open Go.RowKit
set_option maxRecDepth 100000
set_option linter.unusedSimpArgs false
set_option linter.unusedVariables false
theorem infoV : ∃ i, Try.prog.info? 23 = some i ∧ i.zero = some (V3 0 0 0) ∧ i.size = 3 ∧ i.bytes = 24 := ⟨_, rfl, rfl, rfl, rfl⟩
/-- A row that the call owns, as points. -/
theorem pts_of_owns {w : World} {B g cap n : Nat} {xs : List Value} {X : Nat → Int} (h : w.ownsRow B 23 3 (.slice (some ⟨g, 0, none⟩) n cap) n xs) (h0 : 0 < n) (hg : g < w.heap.size) (hx : ∀ o, o < n * 3 → xs[o]? = some (.int .i64 (X o))) : Pts w (.slice (some ⟨g, 0, none⟩) n cap) n X := by
  obtain ⟨hl, h | ⟨g', cap', cur, hv, hb, hh, h1, h2, h3, h4⟩⟩ := h
  · exact absurd h.2 (by omega)
  · simp only [Value.slice.injEq, Option.some.injEq, Addr.mk.injEq, and_true, true_and] at hv
    obtain ⟨rfl, rfl⟩ := hv
    refine .inr ⟨g, 0, cap, rfl, h0, h1, h2, hg, fun o ho => ?_⟩
    rw [Nat.zero_add, cell_of_row _ _ _ _ _ _ hh, ← hx o ho, ← h4, List.getElem?_take, if_pos ho]
    simp
theorem heap_alloc_last' (w : World) (o : Obj) : (w.alloc o).heap[w.heap.size]? = some o := by
  show (w.heap.push o)[w.heap.size]? = some o
  simp
theorem owns_new {w : World} (t : TypeId) : (w.alloc (.cells #[] t)).ownsRow w.heap.size t 3 (.slice (some ⟨w.heap.size, 0, none⟩) 0 0) 0 [] :=
  ⟨by simp, .inr ⟨w.heap.size, 0, #[], rfl, Nat.le_refl _, heap_alloc_last' w _, Nat.le_refl _, by decide, by simp, by simp⟩⟩
/-- The cells of n points. -/
def nw (n : Nat) (X : Nat → Int) : List Value := (List.range (n * 3)).map fun o => Value.int .i64 (X o)
theorem copy_any (n : Nat) (b off c : Nat) (X : Nat → Int) (hn : n ≤ 2000) (g1 : 0 < n) (g2 : n ≤ c) (g3 : c ≤ maxLen) (w : World) (hlt : b < w.heap.size) (hcell : ∀ o, o < n * 3 → w.cell? ⟨b, off + o, none⟩ = some (.int .i64 (X o))) :
    Calls Try.prog 28 #[.slice (some ⟨b, off, none⟩) n c] w fun e w' => ∃ g cap, e = .returned (.slice (some ⟨g, 0, none⟩) n cap) ∧ w.heap.size ≤ g ∧ Pts w' (.slice (some ⟨g, 0, none⟩) n cap) n X ∧ Below w.heap.size w w' ∧ w'.ownsRow w.heap.size 23 3 (.slice (some ⟨g, 0, none⟩) n cap) n (nw n X) ∧ g < w'.heap.size := by
  obtain ⟨i0, hi, hz0, hz1, hz2⟩ := infoV
  have ml : (maxLen : Nat) = maxLen := rfl
  go_enter Try.func28, Try.ntmps28
  go_wp2_with (at_builtin; refine wpList_append_lies _ rfl _ _ 39 rfl w.heap.size 23 i0 (V3 0 0 0) 3 24 Try.underlying39 hi hz0 hz1 hz2 rfl (by decide) _ _ _ rfl (owns_new _) ⟨b, off, none⟩ n c ((List.range (n * 3)).map fun o => Value.int .i64 (X o)) rfl (by simp) (fun j u hu => ?_) (fun u hu => ?_) g1 (by unfold maxLen; omega) (by omega) (by rw [World.size_alloc]; omega) _ rfl (fun g cap w' h1 h2 h3 h4 => ?_))
  case refine_1 =>
    rw [List.getElem?_map, Option.map_eq_some_iff] at hu
    obtain ⟨o, ho, rfl⟩ := hu
    rw [List.getElem?_eq_some_iff] at ho
    obtain ⟨hlo, rfl⟩ := ho
    simp only [List.getElem_range] at *
    exact hcell j (by simpa using hlo)
  case refine_2 =>
    rw [List.mem_map] at hu
    obtain ⟨o, _, rfl⟩ := hu
    rfl
  rw [Nat.zero_add, List.nil_append] at h1
  have hw : w.heap.size ≤ g := by
    rcases h3 with h | h
    · have h' : some w.heap.size = some g := h
      have := Option.some.inj h'; omega
    · rw [World.size_alloc] at h; omega
  have hP : Pts w' (.slice (some ⟨g, 0, none⟩) n cap) n X := pts_of_owns h1 g1 h4 (fun o ho => by rw [List.getElem?_map, List.getElem?_range ho]; rfl)
  have hB : Below w.heap.size w w' := Below.grown ((Below.refl _ _).alloc (Nat.le_refl _) _) h2 (by rw [World.size_alloc]; omega) (fun k hk => by have hk' : some w.heap.size = some k := hk; have := Option.some.inj hk'; omega)
  go_returns
  exact ⟨g, cap, by simp, hw, hP, hB, h1, h4⟩
theorem copy_none (p : Option Addr) (c : Nat) (w : World) :
    Calls Try.prog 28 #[.slice p 0 c] w fun e w' => ∃ q d, e = .returned (.slice q 0 d) ∧ Below w.heap.size w w' := by
  have e0 : ∀ w, Sem.run Try.prog (pure (#[] : Array Value)) w = .ok #[] w := fun _ => rfl
  have e1 : ∀ a w, Sem.run Try.prog (storeCells a []) w = .ok () w := fun _ _ => rfl
  cases p <;>
  · go_enter Try.func28, Try.ntmps28
    go_wp2

    go_returns
    exact ⟨_, _, by simp; exact ⟨rfl, rfl⟩, by (repeat' (first | (with_reducible exact Below.refl _ _) | (with_reducible refine bstep (by with_reducible assumption) ?_) | (with_reducible refine Below.alloc ?_ ?_ _) | (with_reducible refine Below.drew ?_) | (with_reducible refine below_drewN ?_ _) | (with_reducible refine Below.setCell ?_ ?_ _) | go_size))⟩
end Go.Proofs.Ytodgnpggcdjgaaa
