/- The statements' first line of layer 14 answers true. -/
import Derived.Test.YtdemcleibpgglaaTexel
import Derived.Test.YtdemcleibpgglaaLift
namespace Go.Proofs.Ytdemcleibpgglaa
open Go.RowKit
set_option maxRecDepth 100000
set_option linter.unusedSimpArgs false
set_option linter.unusedVariables false
theorem alive14_any (w : World) : Calls Try.prog 20 #[] w fun e w' => e = .returned (.bool true) ∧ Below w.heap.size w w' := by
  have K := Lib.hid (lift_is 5 5 5 0 0 1023 255 10 true 5 5 15 (by simp [lfok, inB, mx, mn, wrap64]) (by decide) (by decide) (by decide))
  have T := Lib.hid (fun w v => texel_is (.string ⟨#[]⟩) v 2 1 [7, 9] (-1) 0 0 true 9 (by rw [texok, show rightB 2 1 [7, 9] = true by decide]; simp [inB, mx, mn, wrap64]) (by decide) w)
  go_enter Try.func20, Try.ntmps20
  go_wp2_with (first
    | (go_at_call 21; ((with_reducible refine (K.out _).mono ?_); rintro e w1 ⟨rfl, hb1⟩; have hs1 : w.heap.size ≤ w1.heap.size := hb1.size))
    | (go_at_call 23; ((refine (T.out _ _ (.inr ⟨w1.heap.size + 1, 0, 2, rfl, by decide, by decide, by decide, by (repeat (first | (with_reducible assumption) | (focus ((with_reducible refine lt_new ?_); (repeat (first | (with_reducible rfl) | (with_reducible refine sz1 ?_))); done)) | (with_reducible refine lt_here ?_))), fun j hj => by match j, hj with | 0, _ => simp | 1, _ => simp⟩)).mono ?_); rintro e w2 ⟨rfl, hb2⟩; have A2 : ∀ o, w2.cell? ⟨w1.heap.size, o, none⟩ = (#[.int .i64 5, .int .i64 5, .int .i64 15] : Array Value)[o]? := blk_later (by simp) hb2 (by (repeat (first | (with_reducible assumption) | (focus ((with_reducible refine new_at ?_ _ _); (repeat (first | (with_reducible rfl) | (with_reducible refine sz1 ?_))); done)) | (with_reducible refine blk_alloc (by simp) _ ?_) | (with_reducible refine blk_drew ?_)))); have hl2 : w1.heap.size < w2.heap.size := blk_lt (by simp) A2)))
  go_returns
  exact ⟨by simp, by (repeat' (first | (with_reducible exact Below.refl _ _) | (with_reducible refine bstep (by with_reducible assumption) ?_) | (with_reducible refine Below.alloc ?_ ?_ _) | (with_reducible refine Below.drew ?_) | (with_reducible refine below_drewN ?_ _) | (with_reducible refine Below.setCell ?_ ?_ _) | go_size))⟩
end Go.Proofs.Ytdemcleibpgglaa
