/-
  No cell of these rows narrows 'for every input' (looked for: loops, veiled, ifaces, maps, wideKeys, modest, calm, conditions, laid).
  DERIVED. THE GIVEN ROWS OF THIS SEAT. 11 by the template 'for every input the law returns true; each argument reads behind the call as it read before'; 0 by the template 'total and deterministic' (their statements: YtodgnpggcdjgaaaTotals.lean).
  GIVEN WITH THE SEED: the statements are not yours to turn. If you find one false, say at which input.
  Laid BY PROGRAM, IN A SANDBOX (cutbox-rows.mjs): the forced cells as the released guide's own fill.sh prints them over the translation a85924e9228e16ae… (all of the seat's roots in one cut). By AI agents, Wed Nov 11 2026. No macro, syntax, notation, axiom, sorry.
-/
import Derived.Test.YtodgnpggcdjgaaaChecked
import GoSem.Claim
import GoSem.ClaimJoined
import GoSem.ClaimMapViews
import Derived.JoinedTies
import Derived.KernelRfl
namespace Go.Proofs.Ytodgnpggcdjgaaa
/- THE CELL 'sum', in the pinned program and in every row, IS THE sha256 OF THE DUMP (.gsa) THAT YtodgnpggcdjgaaaProg.lean LOADS. Nothing in Lean hashes anything: it is a label: what it is worth is what the hold of that sum in a sandbox is worth. -/
noncomputable def Try.pinned : Pinned := { name := "ytodgnpggcdjgaaa", sum := "a85924e9228e16ae7627a5e2df39c709215a353dfdcad491d3945dacca5288cf", checked := Try.checked }
namespace Rows
def none {H : Type} : Left H := { results := [], args := [] }

/-- 'relievolaw12.RateUnits': WHATEVER THE INPUT: true; the input reads as it did. -/
def rateUnitsSpec : ChangeSpec := { name := "rateUnits", fn := fun _ => fun
  | [d1, d2, d3] => { results := [.lit (.bool true)], args := [d1, d2, d3] }
  | _ => none }
def rateUnitsRow : OpenClaim := { program := "ytodgnpggcdjgaaa", sum := "a85924e9228e16ae7627a5e2df39c709215a353dfdcad491d3945dacca5288cf", func := "relievo/relievolaw12.RateUnits", spec := "rateUnits", apart := false }
def RateUnitsSaid : Prop := rateUnitsRow.holds Try.pinned (OpenSpec.ofChange rateUnitsSpec)

/-- ITS FALSE NEIGHBOUR: 'it returns false'. Refute it at one input. -/
def rateUnitsWrong : ChangeSpec := { name := "rateUnits", fn := fun _ => fun
  | [d1, d2, d3] => { results := [.lit (.bool false)], args := [d1, d2, d3] }
  | _ => none }
def RateUnitsWrongFalsely : Prop := rateUnitsRow.holds Try.pinned (OpenSpec.ofChange rateUnitsWrong)

/-- 'relievolaw12.RateMoved': WHATEVER THE INPUT: true; the input reads as it did. -/
def rateMovedSpec : ChangeSpec := { name := "rateMoved", fn := fun _ => fun
  | [d1, d2] => { results := [.lit (.bool true)], args := [d1, d2] }
  | _ => none }
def rateMovedRow : OpenClaim := { program := "ytodgnpggcdjgaaa", sum := "a85924e9228e16ae7627a5e2df39c709215a353dfdcad491d3945dacca5288cf", func := "relievo/relievolaw12.RateMoved", spec := "rateMoved", apart := false }
def RateMovedSaid : Prop := rateMovedRow.holds Try.pinned (OpenSpec.ofChange rateMovedSpec)

/-- ITS FALSE NEIGHBOUR: 'it returns false'. Refute it at one input. -/
def rateMovedWrong : ChangeSpec := { name := "rateMoved", fn := fun _ => fun
  | [d1, d2] => { results := [.lit (.bool false)], args := [d1, d2] }
  | _ => none }
def RateMovedWrongFalsely : Prop := rateMovedRow.holds Try.pinned (OpenSpec.ofChange rateMovedWrong)

/-- 'relievolaw02.VecRound': WHATEVER THE INPUT: true; the input reads as it did. -/
def vecRoundSpec : ChangeSpec := { name := "vecRound", fn := fun _ => fun
  | [d1, d2, d3] => { results := [.lit (.bool true)], args := [d1, d2, d3] }
  | _ => none }
def vecRoundRow : OpenClaim := { program := "ytodgnpggcdjgaaa", sum := "a85924e9228e16ae7627a5e2df39c709215a353dfdcad491d3945dacca5288cf", func := "relievo/relievolaw02.VecRound", spec := "vecRound", apart := false }
def VecRoundSaid : Prop := vecRoundRow.holds Try.pinned (OpenSpec.ofChange vecRoundSpec)

/-- ITS FALSE NEIGHBOUR: 'it returns false'. Refute it at one input. -/
def vecRoundWrong : ChangeSpec := { name := "vecRound", fn := fun _ => fun
  | [d1, d2, d3] => { results := [.lit (.bool false)], args := [d1, d2, d3] }
  | _ => none }
def VecRoundWrongFalsely : Prop := vecRoundRow.holds Try.pinned (OpenSpec.ofChange vecRoundWrong)

/-- 'relievolaw02.VecCut': WHATEVER THE INPUT: true; the input reads as it did. -/
def vecCutSpec : ChangeSpec := { name := "vecCut", fn := fun _ => fun
  | [d1, d2] => { results := [.lit (.bool true)], args := [d1, d2] }
  | _ => none }
def vecCutRow : OpenClaim := { program := "ytodgnpggcdjgaaa", sum := "a85924e9228e16ae7627a5e2df39c709215a353dfdcad491d3945dacca5288cf", func := "relievo/relievolaw02.VecCut", spec := "vecCut", apart := false }
def VecCutSaid : Prop := vecCutRow.holds Try.pinned (OpenSpec.ofChange vecCutSpec)

/-- ITS FALSE NEIGHBOUR: 'it returns false'. Refute it at one input. -/
def vecCutWrong : ChangeSpec := { name := "vecCut", fn := fun _ => fun
  | [d1, d2] => { results := [.lit (.bool false)], args := [d1, d2] }
  | _ => none }
def VecCutWrongFalsely : Prop := vecCutRow.holds Try.pinned (OpenSpec.ofChange vecCutWrong)

/-- 'relievolaw02.VecCross': WHATEVER THE INPUT: true; the input reads as it did. -/
def vecCrossSpec : ChangeSpec := { name := "vecCross", fn := fun _ => fun
  | [d1, d2] => { results := [.lit (.bool true)], args := [d1, d2] }
  | _ => none }
def vecCrossRow : OpenClaim := { program := "ytodgnpggcdjgaaa", sum := "a85924e9228e16ae7627a5e2df39c709215a353dfdcad491d3945dacca5288cf", func := "relievo/relievolaw02.VecCross", spec := "vecCross", apart := false }
def VecCrossSaid : Prop := vecCrossRow.holds Try.pinned (OpenSpec.ofChange vecCrossSpec)

/-- ITS FALSE NEIGHBOUR: 'it returns false'. Refute it at one input. -/
def vecCrossWrong : ChangeSpec := { name := "vecCross", fn := fun _ => fun
  | [d1, d2] => { results := [.lit (.bool false)], args := [d1, d2] }
  | _ => none }
def VecCrossWrongFalsely : Prop := vecCrossRow.holds Try.pinned (OpenSpec.ofChange vecCrossWrong)

/-- 'relievolaw02.VecSpreads': WHATEVER THE INPUT: true; the input reads as it did. -/
def vecSpreadsSpec : ChangeSpec := { name := "vecSpreads", fn := fun _ => fun
  | [d1, d2, d3] => { results := [.lit (.bool true)], args := [d1, d2, d3] }
  | _ => none }
def vecSpreadsRow : OpenClaim := { program := "ytodgnpggcdjgaaa", sum := "a85924e9228e16ae7627a5e2df39c709215a353dfdcad491d3945dacca5288cf", func := "relievo/relievolaw02.VecSpreads", spec := "vecSpreads", apart := false }
def VecSpreadsSaid : Prop := vecSpreadsRow.holds Try.pinned (OpenSpec.ofChange vecSpreadsSpec)

/-- ITS FALSE NEIGHBOUR: 'it returns false'. Refute it at one input. -/
def vecSpreadsWrong : ChangeSpec := { name := "vecSpreads", fn := fun _ => fun
  | [d1, d2, d3] => { results := [.lit (.bool false)], args := [d1, d2, d3] }
  | _ => none }
def VecSpreadsWrongFalsely : Prop := vecSpreadsRow.holds Try.pinned (OpenSpec.ofChange vecSpreadsWrong)

/-- 'relievolaw02.VecBoxes': WHATEVER THE INPUT: true; the input reads as it did. -/
def vecBoxesSpec : ChangeSpec := { name := "vecBoxes", fn := fun _ => fun
  | [d1, d2, d3, d4] => { results := [.lit (.bool true)], args := [d1, d2, d3, d4] }
  | _ => none }
def vecBoxesRow : OpenClaim := { program := "ytodgnpggcdjgaaa", sum := "a85924e9228e16ae7627a5e2df39c709215a353dfdcad491d3945dacca5288cf", func := "relievo/relievolaw02.VecBoxes", spec := "vecBoxes", apart := false }
def VecBoxesSaid : Prop := vecBoxesRow.holds Try.pinned (OpenSpec.ofChange vecBoxesSpec)

/-- ITS FALSE NEIGHBOUR: 'it returns false'. Refute it at one input. -/
def vecBoxesWrong : ChangeSpec := { name := "vecBoxes", fn := fun _ => fun
  | [d1, d2, d3, d4] => { results := [.lit (.bool false)], args := [d1, d2, d3, d4] }
  | _ => none }
def VecBoxesWrongFalsely : Prop := vecBoxesRow.holds Try.pinned (OpenSpec.ofChange vecBoxesWrong)

/-- 'relievolaw02.VecBound': WHATEVER THE INPUT: true; the input reads as it did. -/
def vecBoundSpec : ChangeSpec := { name := "vecBound", fn := fun _ => fun
  | [d] => { results := [.lit (.bool true)], args := [d] }
  | _ => none }
def vecBoundRow : OpenClaim := { program := "ytodgnpggcdjgaaa", sum := "a85924e9228e16ae7627a5e2df39c709215a353dfdcad491d3945dacca5288cf", func := "relievo/relievolaw02.VecBound", spec := "vecBound", apart := false }
def VecBoundSaid : Prop := vecBoundRow.holds Try.pinned (OpenSpec.ofChange vecBoundSpec)

/-- ITS FALSE NEIGHBOUR: 'it returns false'. Refute it at one input. -/
def vecBoundWrong : ChangeSpec := { name := "vecBound", fn := fun _ => fun
  | [d] => { results := [.lit (.bool false)], args := [d] }
  | _ => none }
def VecBoundWrongFalsely : Prop := vecBoundRow.holds Try.pinned (OpenSpec.ofChange vecBoundWrong)

/-- 'relievolaw02.VecJoin': WHATEVER THE INPUT: true; the input reads as it did. -/
def vecJoinSpec : ChangeSpec := { name := "vecJoin", fn := fun _ => fun
  | [d1, d2, d3] => { results := [.lit (.bool true)], args := [d1, d2, d3] }
  | _ => none }
def vecJoinRow : OpenClaim := { program := "ytodgnpggcdjgaaa", sum := "a85924e9228e16ae7627a5e2df39c709215a353dfdcad491d3945dacca5288cf", func := "relievo/relievolaw02.VecJoin", spec := "vecJoin", apart := false }
def VecJoinSaid : Prop := vecJoinRow.holds Try.pinned (OpenSpec.ofChange vecJoinSpec)

/-- ITS FALSE NEIGHBOUR: 'it returns false'. Refute it at one input. -/
def vecJoinWrong : ChangeSpec := { name := "vecJoin", fn := fun _ => fun
  | [d1, d2, d3] => { results := [.lit (.bool false)], args := [d1, d2, d3] }
  | _ => none }
def VecJoinWrongFalsely : Prop := vecJoinRow.holds Try.pinned (OpenSpec.ofChange vecJoinWrong)

/-- 'relievolaw12.RateCounts': WHATEVER THE INPUT: true; the input reads as it did. -/
def rateCountsSpec : ChangeSpec := { name := "rateCounts", fn := fun _ => fun
  | [d1, d2] => { results := [.lit (.bool true)], args := [d1, d2] }
  | _ => none }
def rateCountsRow : OpenClaim := { program := "ytodgnpggcdjgaaa", sum := "a85924e9228e16ae7627a5e2df39c709215a353dfdcad491d3945dacca5288cf", func := "relievo/relievolaw12.RateCounts", spec := "rateCounts", apart := false }
def RateCountsSaid : Prop := rateCountsRow.holds Try.pinned (OpenSpec.ofChange rateCountsSpec)

/-- ITS FALSE NEIGHBOUR: 'it returns false'. Refute it at one input. -/
def rateCountsWrong : ChangeSpec := { name := "rateCounts", fn := fun _ => fun
  | [d1, d2] => { results := [.lit (.bool false)], args := [d1, d2] }
  | _ => none }
def RateCountsWrongFalsely : Prop := rateCountsRow.holds Try.pinned (OpenSpec.ofChange rateCountsWrong)

/-- 'relievolaw12.RateBack': WHATEVER THE INPUT: true; the input reads as it did. -/
def rateBackSpec : ChangeSpec := { name := "rateBack", fn := fun _ => fun
  | [d1, d2] => { results := [.lit (.bool true)], args := [d1, d2] }
  | _ => none }
def rateBackRow : OpenClaim := { program := "ytodgnpggcdjgaaa", sum := "a85924e9228e16ae7627a5e2df39c709215a353dfdcad491d3945dacca5288cf", func := "relievo/relievolaw12.RateBack", spec := "rateBack", apart := false }
def RateBackSaid : Prop := rateBackRow.holds Try.pinned (OpenSpec.ofChange rateBackSpec)

/-- ITS FALSE NEIGHBOUR: 'it returns false'. Refute it at one input. -/
def rateBackWrong : ChangeSpec := { name := "rateBack", fn := fun _ => fun
  | [d1, d2] => { results := [.lit (.bool false)], args := [d1, d2] }
  | _ => none }
def RateBackWrongFalsely : Prop := rateBackRow.holds Try.pinned (OpenSpec.ofChange rateBackWrong)

/- THE SECOND FORM. 'bulk': how many values and letters a reading holds, each counted each time it is reached (what is shared counts as often as it is met; a slice's spare places count too). A statement '..UptoSaid' is the law's where the arguments, and the package variables that the reading takes, are together of bulk at most 1048576: NARROWER than '..Said'. Prove '..Said' where nothing that the law and all that it calls make is longer than what came in: it says more and counts as full. Else prove '..UptoSaid'. A law counts once. -/
mutual
def uptoBulk {H : Type} : DataW H → Nat
  | .lit (.string bytes) => bytes.length + 1
  | .lit _ => 1
  | .nil => 1
  | .ptr d => uptoBulk d + 1
  | .slice elems spare => uptoBulkAll elems + uptoBulkAll spare + 1
  | .agg parts => uptoBulkAll parts + 1
  | .iface _ d => uptoBulk d + 1
  | .map entries => uptoBulkEntries entries + 1
  | .held _ => 1
def uptoBulkAll {H : Type} : List (DataW H) → Nat
  | [] => 0
  | d :: r => uptoBulk d + uptoBulkAll r
def uptoBulkEntries {H : Type} : List (Lit × DataW H) → Nat
  | [] => 0
  | x :: r => uptoBulkEntry x + uptoBulkEntries r
def uptoBulkEntry {H : Type} : Lit × DataW H → Nat
  | (.string bytes, d) => bytes.length + uptoBulk d + 1
  | (_, d) => uptoBulk d + 1
 end
def uptoSmall : (H : Type) → List (DataW H) → Bool := fun _ ds => decide (uptoBulkAll ds ≤ 1048576)
def OpenSpec.upto (s : _root_.Go.ChangeSpec) : _root_.Go.OpenSpec := { _root_.Go.OpenSpec.ofChange s with cond := some uptoSmall }

/-- 'relievolaw12.RateUnits', WHERE WHAT IT READS IS OF BULK AT MOST 1048576: true; the input reads as it did. -/
def rateUnitsUptoRow : OpenClaim := { program := "ytodgnpggcdjgaaa", sum := "a85924e9228e16ae7627a5e2df39c709215a353dfdcad491d3945dacca5288cf", func := "relievo/relievolaw12.RateUnits", spec := "rateUnits", apart := false, narrowed := true }
def RateUnitsUptoSaid : Prop := rateUnitsUptoRow.holds Try.pinned (OpenSpec.upto rateUnitsSpec)

/-- 'relievolaw12.RateMoved', WHERE WHAT IT READS IS OF BULK AT MOST 1048576: true; the input reads as it did. -/
def rateMovedUptoRow : OpenClaim := { program := "ytodgnpggcdjgaaa", sum := "a85924e9228e16ae7627a5e2df39c709215a353dfdcad491d3945dacca5288cf", func := "relievo/relievolaw12.RateMoved", spec := "rateMoved", apart := false, narrowed := true }
def RateMovedUptoSaid : Prop := rateMovedUptoRow.holds Try.pinned (OpenSpec.upto rateMovedSpec)

/-- 'relievolaw02.VecRound', WHERE WHAT IT READS IS OF BULK AT MOST 1048576: true; the input reads as it did. -/
def vecRoundUptoRow : OpenClaim := { program := "ytodgnpggcdjgaaa", sum := "a85924e9228e16ae7627a5e2df39c709215a353dfdcad491d3945dacca5288cf", func := "relievo/relievolaw02.VecRound", spec := "vecRound", apart := false, narrowed := true }
def VecRoundUptoSaid : Prop := vecRoundUptoRow.holds Try.pinned (OpenSpec.upto vecRoundSpec)

/-- 'relievolaw02.VecCut', WHERE WHAT IT READS IS OF BULK AT MOST 1048576: true; the input reads as it did. -/
def vecCutUptoRow : OpenClaim := { program := "ytodgnpggcdjgaaa", sum := "a85924e9228e16ae7627a5e2df39c709215a353dfdcad491d3945dacca5288cf", func := "relievo/relievolaw02.VecCut", spec := "vecCut", apart := false, narrowed := true }
def VecCutUptoSaid : Prop := vecCutUptoRow.holds Try.pinned (OpenSpec.upto vecCutSpec)

/-- 'relievolaw02.VecCross', WHERE WHAT IT READS IS OF BULK AT MOST 1048576: true; the input reads as it did. -/
def vecCrossUptoRow : OpenClaim := { program := "ytodgnpggcdjgaaa", sum := "a85924e9228e16ae7627a5e2df39c709215a353dfdcad491d3945dacca5288cf", func := "relievo/relievolaw02.VecCross", spec := "vecCross", apart := false, narrowed := true }
def VecCrossUptoSaid : Prop := vecCrossUptoRow.holds Try.pinned (OpenSpec.upto vecCrossSpec)

/-- 'relievolaw02.VecSpreads', WHERE WHAT IT READS IS OF BULK AT MOST 1048576: true; the input reads as it did. -/
def vecSpreadsUptoRow : OpenClaim := { program := "ytodgnpggcdjgaaa", sum := "a85924e9228e16ae7627a5e2df39c709215a353dfdcad491d3945dacca5288cf", func := "relievo/relievolaw02.VecSpreads", spec := "vecSpreads", apart := false, narrowed := true }
def VecSpreadsUptoSaid : Prop := vecSpreadsUptoRow.holds Try.pinned (OpenSpec.upto vecSpreadsSpec)

/-- 'relievolaw02.VecBoxes', WHERE WHAT IT READS IS OF BULK AT MOST 1048576: true; the input reads as it did. -/
def vecBoxesUptoRow : OpenClaim := { program := "ytodgnpggcdjgaaa", sum := "a85924e9228e16ae7627a5e2df39c709215a353dfdcad491d3945dacca5288cf", func := "relievo/relievolaw02.VecBoxes", spec := "vecBoxes", apart := false, narrowed := true }
def VecBoxesUptoSaid : Prop := vecBoxesUptoRow.holds Try.pinned (OpenSpec.upto vecBoxesSpec)

/-- 'relievolaw02.VecBound', WHERE WHAT IT READS IS OF BULK AT MOST 1048576: true; the input reads as it did. -/
def vecBoundUptoRow : OpenClaim := { program := "ytodgnpggcdjgaaa", sum := "a85924e9228e16ae7627a5e2df39c709215a353dfdcad491d3945dacca5288cf", func := "relievo/relievolaw02.VecBound", spec := "vecBound", apart := false, narrowed := true }
def VecBoundUptoSaid : Prop := vecBoundUptoRow.holds Try.pinned (OpenSpec.upto vecBoundSpec)

/-- 'relievolaw02.VecJoin', WHERE WHAT IT READS IS OF BULK AT MOST 1048576: true; the input reads as it did. -/
def vecJoinUptoRow : OpenClaim := { program := "ytodgnpggcdjgaaa", sum := "a85924e9228e16ae7627a5e2df39c709215a353dfdcad491d3945dacca5288cf", func := "relievo/relievolaw02.VecJoin", spec := "vecJoin", apart := false, narrowed := true }
def VecJoinUptoSaid : Prop := vecJoinUptoRow.holds Try.pinned (OpenSpec.upto vecJoinSpec)

/-- 'relievolaw12.RateCounts', WHERE WHAT IT READS IS OF BULK AT MOST 1048576: true; the input reads as it did. -/
def rateCountsUptoRow : OpenClaim := { program := "ytodgnpggcdjgaaa", sum := "a85924e9228e16ae7627a5e2df39c709215a353dfdcad491d3945dacca5288cf", func := "relievo/relievolaw12.RateCounts", spec := "rateCounts", apart := false, narrowed := true }
def RateCountsUptoSaid : Prop := rateCountsUptoRow.holds Try.pinned (OpenSpec.upto rateCountsSpec)

/-- 'relievolaw12.RateBack', WHERE WHAT IT READS IS OF BULK AT MOST 1048576: true; the input reads as it did. -/
def rateBackUptoRow : OpenClaim := { program := "ytodgnpggcdjgaaa", sum := "a85924e9228e16ae7627a5e2df39c709215a353dfdcad491d3945dacca5288cf", func := "relievo/relievolaw12.RateBack", spec := "rateBack", apart := false, narrowed := true }
def RateBackUptoSaid : Prop := rateBackUptoRow.holds Try.pinned (OpenSpec.upto rateBackSpec)

end Rows
end Go.Proofs.Ytodgnpggcdjgaaa
