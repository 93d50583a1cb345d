/- Sixteen points, read out of a block as a whole. No condition. -/
import Derived.Test.YtdemcleibpgglaaRow16
import Derived.Deep.MidRow
namespace Go.Proofs.Ytdemcleibpgglaa
set_option linter.unusedSimpArgs false
set_option linter.unusedVariables false
set_option maxRecDepth 100000
open Go.RowKit
theorem info48 : (Try.prog.info? 42).map (·.size) = some 48 := by kernel_rfl
theorem load_arr {ops : Array Oper} {rest : List Oper} {op : Oper} {a : Act} {w : World} {Q : Exit → Act → World → Prop} (hgd : op.guard = none) (x : Operand) (ho : op.op = .load 42 x)
    (b : Nat) (hx : a.eval x = .pointer (some ⟨b, 0, none⟩)) (cs : Array Value) (hs : cs.size = 48) (hc : ∀ o, w.cell? ⟨b, o, none⟩ = cs[o]?)
    (h : wpList Try.prog ops Q rest (a.put op.dst (.agg cs)) w) : wpList Try.prog ops Q (op :: rest) a w := by
  refine wpList_load_mid hgd 42 x ho b 0 hx cs.toList _ (fun j v hv => ?_) Try.underlying42 rfl (by rw [info48]; simp [hs]) (by simpa using h)
  rw [Nat.zero_add, hc j]
  simpa using hv
/-- A law's argument: sixteen points. -/
theorem is48_list {xs : List Int} (h : xs.length = 48) : Is48 (xs.map (Value.int .i64)).toArray (fun k => xs.getD k 0) := by
  refine ⟨by simp [h], fun o ho => ?_⟩
  have hi : o < xs.length := by omega
  simp [List.getD, hi]
end Go.Proofs.Ytdemcleibpgglaa
