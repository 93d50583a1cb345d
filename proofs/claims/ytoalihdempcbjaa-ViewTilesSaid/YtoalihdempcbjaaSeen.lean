/- A new array of 4096 bools, and what it holds while pixels are marked in it. -/
import Derived.Test.YtoalihdempcbjaaTileP
import Derived.Deep.WholeRow
namespace Go.Proofs.Ytoalihdempcbjaa
open Go.RowKit
set_option maxRecDepth 1000000
set_option linter.unusedSimpArgs false
set_option linter.unusedVariables false
def Zs : Array Value := (List.replicate 4096 (Value.bool false)).toArray
theorem info38 : (Try.prog.info? 38).map (·.size) = some Zs.size := by kernel_rfl
theorem zs_size : Zs.size = 4096 := by simp [Zs]
theorem zs_one : Zs.all (·.oneCell') = true := by
  rw [Array.all_eq_true']
  intro x hx
  rw [Zs] at hx
  have h := (List.mem_replicate.1 (List.mem_toArray.1 hx)).2
  subst h; rfl
theorem run_zero38 (w : World) : (zeroValue 38).run Try.prog w = .ok (.agg Zs) w := by kernel_rfl
theorem run_build38 (w : World) : (Instr.build 38 #[]).run Try.prog w = .ok (.agg Zs) w := by kernel_rfl
theorem run_alloc38 (w : World) : (Instr.alloc 38 true (.tuple #[])).run Try.prog w = .ok (.pointer (some ⟨w.heap.size, 0, none⟩)) (w.alloc (.cells Zs 38)) := by kernel_rfl
theorem seen_new {ops : Array Oper} {rest : List Oper} {o1 o2 o3 : Oper} {a : Act} {w : World} {Q : Exit → Act → World → Prop} (g1 : o1.guard = none) (g2 : o2.guard = none) (g3 : o3.guard = none) (h1 : o1.op = .build 38 #[]) (h2 : o2.op = .alloc 38) (x y : Operand) (h3 : o3.op = .store 38 x y)
    (hx : ((a.put o1.dst (.agg Zs)).put o2.dst (.pointer (some ⟨w.heap.size, 0, none⟩))).eval x = .pointer (some ⟨w.heap.size, 0, none⟩)) (hy : ((a.put o1.dst (.agg Zs)).put o2.dst (.pointer (some ⟨w.heap.size, 0, none⟩))).eval y = .agg Zs)
    (h : wpList Try.prog ops Q rest (((a.put o1.dst (.agg Zs)).put o2.dst (.pointer (some ⟨w.heap.size, 0, none⟩))).put o3.dst undef) (w.alloc (.cells Zs 38))) :
    wpList Try.prog ops Q (o1 :: o2 :: o3 :: rest) a w := by
  refine wpList_plain g1 fun _ hK => ?_
  unfold Oper.wp execOp
  simp only [h1, Array.map_empty, Sem.run_bind, Sem.run_pure, run_build38, Result.andThen_ok]
  refine hK _ _ ?_
  refine wpList_plain g2 fun _ hK2 => ?_
  unfold Oper.wp execOp
  simp only [h2, Sem.run_bind, Sem.run_pure, run_alloc38, Result.andThen_ok]
  refine hK2 _ _ ?_
  refine wpList_plain g3 fun _ hK3 => ?_
  unfold Oper.wp execOp
  simp only [h3, hx, hy, Instr.storeAt, Instr.sureAddr, Sem.run_bind, Sem.run_pure, Result.andThen_ok, run_storeVar_new w 38 Zs Zs info38 rfl zs_one]
  exact hK3 _ _ h
/-- Of 4096 bools just those on the list are true. -/
def SeenW (w : World) (S : Nat) (D : List Nat) : Prop := (∀ p, p < 4096 → w.cell? ⟨S, p, none⟩ = some (.bool (decide (p ∈ D)))) ∧ ∀ p, w.frozen? ⟨S, p, none⟩ = false
theorem seen_start (w : World) : SeenW (w.alloc (.cells Zs 38)) w.heap.size [] := by
  refine ⟨fun p hp => ?_, fro_new rfl _ _⟩
  rw [new_at rfl Zs _ p, Zs, List.getElem?_toArray, List.getElem?_replicate, if_pos hp]
  rfl
theorem seen_drewN {w : World} {S : Nat} {D : List Nat} (h : SeenW w S D) (n : Nat) : SeenW (w.drewN n) S D := h
theorem seen_next {w : World} {S q : Nat} {D : List Nat} (h : SeenW w S D) (hq : q < 4096) : SeenW (w.setCell ⟨S, q, none⟩ (.bool true)) S (D ++ [q]) := by
  refine ⟨fun p hp => ?_, fun p => (World.frozen?_setCell _ _ _ _).trans (h.2 p)⟩
  by_cases e : p = q
  · subst e
    rw [World.cell?_setCell_same' _ _ _ (by rw [h.1 p hp]; rfl)]
    simp
  · rw [World.cell?_setCell_other _ _ _ _ (by simp [e]), h.1 p hp]
    simp [e]
end Go.Proofs.Ytoalihdempcbjaa
