/- What slices.Delete answers of two tiles, the second taken out. -/
import Derived.Test.YtoalihdempcbjaaSlices
import Derived.Test.YtoalihdempcbjaaBlk
import Derived.Test.YtoalihdempcbjaaHeld
import Derived.Test.YtoalihdempcbjaaQuiet
import Derived.Deep.DeepCutAuto
import Derived.Lib.SliceRun
namespace Go.Proofs.Ytoalihdempcbjaa
open Go.RowKit
set_option maxRecDepth 100000
set_option linter.unusedSimpArgs false
set_option linter.unusedVariables false
theorem clear_tile (w : World) (g c : Nat) (hc : ∀ j, j < 4 → (w.cell? ⟨g, 4 + j, none⟩).isSome = true) (hf : ∀ j, j < 4 → w.frozen? ⟨g, 4 + j, none⟩ = false) :
    Sem.run Try.prog (Builtin.clear_ #[31] 0 #[.slice (some ⟨g, 4, none⟩) 1 c]) w = .ok (.tuple #[]) (w.setCells g 4 [.int .i64 0, .int .i64 0, .int .i64 0, .int .i64 0]) := by
  have hv : ∀ w, (zeroValue 36).run Try.prog w = .ok (.agg #[.int .i64 0, .int .i64 0, .int .i64 0, .int .i64 0]) w := fun _ => by kernel_rfl
  have hst := run_storeCells_cells (P := Try.prog) g 4 [.int .i64 0, .int .i64 0, .int .i64 0, .int .i64 0] 0 w (by simpa using hc) (by simpa using hf) (by intro v hv'; simp at hv'; subst hv'; rfl)
  simp only [Nat.add_zero] at hst
  have hzc : (Builtin.zeroCells (Value.cells (.agg #[.int .i64 0, .int .i64 0, .int .i64 0, .int .i64 0])) 1).toList = [.int .i64 0, .int .i64 0, .int .i64 0, .int .i64 0] := by kernel_rfl
  simp [Builtin.clear_, run_underlying Try.underlying31, hv, hzc, hst]
def IsW (W w' : World) : Prop := w' = W
set_option maxHeartbeats 4000000 in
theorem del2 (g cap : Nat) (h2 : 2 ≤ cap) (hm : cap ≤ maxLen) (X : Nat → Int) (w : World) (hlt : g < w.heap.size) (hc : ∀ o, o < 8 → w.cell? ⟨g, o, none⟩ = some (.int .i64 (X o))) (hf : ∀ o, w.frozen? ⟨g, o, none⟩ = false) :
    Calls Try.prog 43 #[.slice (some ⟨g, 0, none⟩) 2 cap, .int .i64 1, .int .i64 2] w fun e w' => e = .returned (.slice (some ⟨g, 0, none⟩) 1 cap) ∧ w' = w.drew.setCells g 4 [.int .i64 0, .int .i64 0, .int .i64 0, .int .i64 0] := by
  have c0 := hc 4 (by omega)
  have c1 := hc 5 (by omega)
  have c2 := hc 6 (by omega)
  have c3 := hc 7 (by omega)
  have m1 : ¬ cap < 2 := by omega
  have m2 : (2 : Nat) ≤ cap := h2
  have m3 : (1 : Nat) ≤ cap := by omega
  have m4 : (1 : Int) ≤ (cap : Int) := by omega
  have m5 : (2 : Int) ≤ (cap : Int) := by omega
  have m6 : ¬ cap = 0 := by omega
  have m7 : ¬ cap < 1 := by omega
  have m8 : 0 < cap := by omega
  have e0 : ∀ w, Sem.run Try.prog (pure (#[] : Array Value)) w = .ok #[] w := fun _ => rfl
  have e1 : ∀ a w, Sem.run Try.prog (storeCells a []) w = .ok () w := fun _ _ => rfl
  clear hc
  go_enter Try.func43, Try.ntmps43
  go_wp2_with fail
  refine region_quiet (IsW w.drew) (by kernel_rfl) (by kernel_rfl) ?_ ?_
  · (try dsimp only); (exact rfl)
  with_reducible refine q_want ?_ ?_ (fun wo hSw => ?_) ?_
  rotate_left
  · rfl
  · obtain hW := id hSw; go_simp; (try with_reducible rfl)
  try simp only [Act.put, List.setIfInBounds_toArray, List.set_cons_zero, List.set_cons_succ]
  with_reducible refine q_want ?_ ?_ (fun wo hSw => ?_) ?_
  rotate_left
  · rfl
  · obtain hW := id hSw; go_simp; (try with_reducible rfl)
  try simp only [Act.put, List.setIfInBounds_toArray, List.set_cons_zero, List.set_cons_succ]
  with_reducible refine q_want ?_ ?_ (fun wo hSw => ?_) ?_
  rotate_left
  · rfl
  · obtain hW := id hSw; go_simp; (try with_reducible rfl)
  try simp only [Act.put, List.setIfInBounds_toArray, List.set_cons_zero, List.set_cons_succ]
  with_reducible refine q_want ?_ ?_ (fun wo hSw => ?_) ?_
  rotate_left
  · rfl
  · obtain hW := id hSw; go_simp; (try with_reducible rfl)
  try simp only [Act.put, List.setIfInBounds_toArray, List.set_cons_zero, List.set_cons_succ]
  with_reducible refine q_want ?_ ?_ (fun wo hSw => ?_) ?_
  rotate_left
  · rfl
  · obtain hW := id hSw; go_simp; (try with_reducible rfl)
  try simp only [Act.put, List.setIfInBounds_toArray, List.set_cons_zero, List.set_cons_succ]
  with_reducible refine q_want ?_ ?_ (fun wo hSw => ?_) ?_
  rotate_left
  · rfl
  · obtain hW := id hSw; go_simp; (try with_reducible rfl)
  try simp only [Act.put, List.setIfInBounds_toArray, List.set_cons_zero, List.set_cons_succ]
  with_reducible refine q_want (.slice (some ⟨g, 0, none⟩) 1 cap) ?_ (fun wo hSw => ?_) ?_
  · rfl
  · obtain hW := id hSw; go_simp; (by_cases hc2 : cap = 2 <;> simp [hc2, e0, e1, go_sem])
  try simp only [Act.put, List.setIfInBounds_toArray, List.set_cons_zero, List.set_cons_succ]
  with_reducible refine q_want ?_ ?_ (fun wo hSw => ?_) ?_
  rotate_left
  · rfl
  · obtain hW := id hSw; go_simp; (try with_reducible rfl)
  try simp only [Act.put, List.setIfInBounds_toArray, List.set_cons_zero, List.set_cons_succ]
  with_reducible refine wpQuiet_nil ?_
  intro wq hSq
  obtain rfl : wq = w.drew := hSq
  have RC := fun c => clear_tile w.drew g c (fun j hj => (by
    match j, hj with
    | 0, _ => rw [show w.drew.cell? ⟨g, 4 + 0, none⟩ = _ from c0]; rfl
    | 1, _ => rw [show w.drew.cell? ⟨g, 4 + 1, none⟩ = _ from c1]; rfl
    | 2, _ => rw [show w.drew.cell? ⟨g, 4 + 2, none⟩ = _ from c2]; rfl
    | 3, _ => rw [show w.drew.cell? ⟨g, 4 + 3, none⟩ = _ from c3]; rfl)) (fun j _ => hf _)
  go_wp2_with fail
  all_goals (go_returns; exact ⟨by simp, rfl⟩)
end Go.Proofs.Ytoalihdempcbjaa
