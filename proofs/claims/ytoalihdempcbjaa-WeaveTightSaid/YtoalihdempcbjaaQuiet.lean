/- A drawn region that only reads and calls, at any class of worlds: one walk in the order of the text. -/
import Derived.Test.YtoalihdempcbjaaBlk
import Derived.Deep.QuietTactic
namespace Go.Proofs.Ytoalihdempcbjaa
open Go.RowKit
set_option maxRecDepth 100000
theorem region_quiet {P : Program} {id : Nat} {Q : Exit → Act → World → Prop} {a : Act} {w : World} {l : List Oper} (C : World → Prop) (hm : P.follows .mixedOrders = true) (hB : Region.lexB .any l.toArray = true) (hC : C w.drew)
    (h : wpQuiet P l.toArray C (fun a' => ∀ w', C w' → Q .normal a' w') l a) : (Code.region id l.toArray true).wp P Q a w :=
  wp_region_quiet (C := C) hm hB hC (by simpa using h)
theorem q_skip {P : Program} {ops : Array Oper} {C : World → Prop} {Q : Act → Prop} {o : Oper} {rest : List Oper} {a : Act} (hn : Region.wanted o (yielded ops a.tmps) = false) (h : wpQuiet P ops C Q rest (a.put o.dst undef)) : wpQuiet P ops C Q (o :: rest) a := by
  rw [wpQuiet, hn]; exact h
theorem q_want {P : Program} {ops : Array Oper} {C : World → Prop} {Q : Act → Prop} {o : Oper} {rest : List Oper} {a : Act} (v : Value) (hn : Region.wanted o (yielded ops a.tmps) = true) (hv : ∀ w, C w → o.quietAt P a C w v) (h : wpQuiet P ops C Q rest (a.put o.dst v)) : wpQuiet P ops C Q (o :: rest) a := by
  rw [wpQuiet, hn]; exact ⟨v, hv, h⟩
theorem q_mv {P : Program} {o : Oper} {a : Act} {C : World → Prop} {w : World} (x : Operand) {v : Value} (ho : o.op = .move x) (hv : a.eval x = v) : o.quietAt P a C w v := by
  subst hv
  unfold Oper.quietAt execOp
  rw [ho]
  exact ⟨rfl, rfl⟩
end Go.Proofs.Ytoalihdempcbjaa
