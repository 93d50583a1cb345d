/-
  No cell of these rows narrows 'for every input' (looked for: loops, veiled, ifaces, maps, wideKeys, modest, calm, conditions, laid).
  DERIVED. THE GIVEN ROWS OF THIS SEAT. 9 by the template 'for every input the law returns true; each argument reads behind the call as it read before'; 0 by the template 'total and deterministic' (their statements: YtoalihdempcbjaaTotals.lean).
  GIVEN WITH THE SEED: the statements are not yours to turn. If you find one false, say at which input.
  Laid BY PROGRAM, IN A SANDBOX (cutbox-rows.mjs): the forced cells as the released guide's own fill.sh prints them over the translation 411daed878eeef6e… (all of the seat's roots in one cut). By AI agents, Wed Nov 11 2026. No macro, syntax, notation, axiom, sorry.
-/
import Derived.Test.YtoalihdempcbjaaChecked
import GoSem.Claim
import GoSem.ClaimJoined
import GoSem.ClaimMapViews
import Derived.JoinedTies
import Derived.KernelRfl
namespace Go.Proofs.Ytoalihdempcbjaa
/- THE CELL 'sum', in the pinned program and in every row, IS THE sha256 OF THE DUMP (.gsa) THAT YtoalihdempcbjaaProg.lean LOADS. Nothing in Lean hashes anything: it is a label: what it is worth is what the hold of that sum in a sandbox is worth. -/
noncomputable def Try.pinned : Pinned := { name := "ytoalihdempcbjaa", sum := "411daed878eeef6e3bb8d9908556d51a32640e64485d5def62cbe3965ab13aad", checked := Try.checked }
namespace Rows
def none {H : Type} : Left H := { results := [], args := [] }

/-- 'relievolaw21.ViewAnswers': WHATEVER THE INPUT: true; the input reads as it did. -/
def viewAnswersSpec : ChangeSpec := { name := "viewAnswers", fn := fun _ => fun
  | [d1, d2, d3, d4, d5, d6] => { results := [.lit (.bool true)], args := [d1, d2, d3, d4, d5, d6] }
  | _ => none }
def viewAnswersRow : OpenClaim := { program := "ytoalihdempcbjaa", sum := "411daed878eeef6e3bb8d9908556d51a32640e64485d5def62cbe3965ab13aad", func := "relievo/relievolaw21.ViewAnswers", spec := "viewAnswers", plainKeys := false, apart := false }
def ViewAnswersSaid : Prop := viewAnswersRow.holds Try.pinned (OpenSpec.ofChange viewAnswersSpec)

/-- ITS FALSE NEIGHBOUR: 'it returns false'. Refute it at one input. -/
def viewAnswersWrong : ChangeSpec := { name := "viewAnswers", fn := fun _ => fun
  | [d1, d2, d3, d4, d5, d6] => { results := [.lit (.bool false)], args := [d1, d2, d3, d4, d5, d6] }
  | _ => none }
def ViewAnswersWrongFalsely : Prop := viewAnswersRow.holds Try.pinned (OpenSpec.ofChange viewAnswersWrong)

/-- 'relievolaw21.ViewTiles': WHATEVER THE INPUT: true; the input reads as it did. -/
def viewTilesSpec : ChangeSpec := { name := "viewTiles", fn := fun _ => fun
  | [d1, d2, d3] => { results := [.lit (.bool true)], args := [d1, d2, d3] }
  | _ => none }
def viewTilesRow : OpenClaim := { program := "ytoalihdempcbjaa", sum := "411daed878eeef6e3bb8d9908556d51a32640e64485d5def62cbe3965ab13aad", func := "relievo/relievolaw21.ViewTiles", spec := "viewTiles", plainKeys := false, apart := false }
def ViewTilesSaid : Prop := viewTilesRow.holds Try.pinned (OpenSpec.ofChange viewTilesSpec)

/-- ITS FALSE NEIGHBOUR: 'it returns false'. Refute it at one input. -/
def viewTilesWrong : ChangeSpec := { name := "viewTiles", fn := fun _ => fun
  | [d1, d2, d3] => { results := [.lit (.bool false)], args := [d1, d2, d3] }
  | _ => none }
def ViewTilesWrongFalsely : Prop := viewTilesRow.holds Try.pinned (OpenSpec.ofChange viewTilesWrong)

/-- 'relievolaw21.ViewSteps': WHATEVER THE INPUT: true; the input reads as it did. -/
def viewStepsSpec : ChangeSpec := { name := "viewSteps", fn := fun _ => fun
  | [d1, d2, d3] => { results := [.lit (.bool true)], args := [d1, d2, d3] }
  | _ => none }
def viewStepsRow : OpenClaim := { program := "ytoalihdempcbjaa", sum := "411daed878eeef6e3bb8d9908556d51a32640e64485d5def62cbe3965ab13aad", func := "relievo/relievolaw21.ViewSteps", spec := "viewSteps", plainKeys := false, apart := false }
def ViewStepsSaid : Prop := viewStepsRow.holds Try.pinned (OpenSpec.ofChange viewStepsSpec)

/-- ITS FALSE NEIGHBOUR: 'it returns false'. Refute it at one input. -/
def viewStepsWrong : ChangeSpec := { name := "viewSteps", fn := fun _ => fun
  | [d1, d2, d3] => { results := [.lit (.bool false)], args := [d1, d2, d3] }
  | _ => none }
def ViewStepsWrongFalsely : Prop := viewStepsRow.holds Try.pinned (OpenSpec.ofChange viewStepsWrong)

/-- 'relievolaw21.ViewOrder': WHATEVER THE INPUT: true; the input reads as it did. -/
def viewOrderSpec : ChangeSpec := { name := "viewOrder", fn := fun _ => fun
  | [d1, d2, d3] => { results := [.lit (.bool true)], args := [d1, d2, d3] }
  | _ => none }
def viewOrderRow : OpenClaim := { program := "ytoalihdempcbjaa", sum := "411daed878eeef6e3bb8d9908556d51a32640e64485d5def62cbe3965ab13aad", func := "relievo/relievolaw21.ViewOrder", spec := "viewOrder", plainKeys := false, apart := false }
def ViewOrderSaid : Prop := viewOrderRow.holds Try.pinned (OpenSpec.ofChange viewOrderSpec)

/-- ITS FALSE NEIGHBOUR: 'it returns false'. Refute it at one input. -/
def viewOrderWrong : ChangeSpec := { name := "viewOrder", fn := fun _ => fun
  | [d1, d2, d3] => { results := [.lit (.bool false)], args := [d1, d2, d3] }
  | _ => none }
def ViewOrderWrongFalsely : Prop := viewOrderRow.holds Try.pinned (OpenSpec.ofChange viewOrderWrong)

/-- 'relievolaw13.WeaveSpots': WHATEVER THE INPUT: true; the input reads as it did. -/
def weaveSpotsSpec : ChangeSpec := { name := "weaveSpots", fn := fun _ => fun
  | [d] => { results := [.lit (.bool true)], args := [d] }
  | _ => none }
def weaveSpotsRow : OpenClaim := { program := "ytoalihdempcbjaa", sum := "411daed878eeef6e3bb8d9908556d51a32640e64485d5def62cbe3965ab13aad", func := "relievo/relievolaw13.WeaveSpots", spec := "weaveSpots", plainKeys := false, apart := false }
def WeaveSpotsSaid : Prop := weaveSpotsRow.holds Try.pinned (OpenSpec.ofChange weaveSpotsSpec)

/-- ITS FALSE NEIGHBOUR: 'it returns false'. Refute it at one input. -/
def weaveSpotsWrong : ChangeSpec := { name := "weaveSpots", fn := fun _ => fun
  | [d] => { results := [.lit (.bool false)], args := [d] }
  | _ => none }
def WeaveSpotsWrongFalsely : Prop := weaveSpotsRow.holds Try.pinned (OpenSpec.ofChange weaveSpotsWrong)

/-- 'relievolaw13.WeaveTight': WHATEVER THE INPUT: true; the input reads as it did. -/
def weaveTightSpec : ChangeSpec := { name := "weaveTight", fn := fun _ => fun
  | [d] => { results := [.lit (.bool true)], args := [d] }
  | _ => none }
def weaveTightRow : OpenClaim := { program := "ytoalihdempcbjaa", sum := "411daed878eeef6e3bb8d9908556d51a32640e64485d5def62cbe3965ab13aad", func := "relievo/relievolaw13.WeaveTight", spec := "weaveTight", plainKeys := false, apart := false }
def WeaveTightSaid : Prop := weaveTightRow.holds Try.pinned (OpenSpec.ofChange weaveTightSpec)

/-- ITS FALSE NEIGHBOUR: 'it returns false'. Refute it at one input. -/
def weaveTightWrong : ChangeSpec := { name := "weaveTight", fn := fun _ => fun
  | [d] => { results := [.lit (.bool false)], args := [d] }
  | _ => none }
def WeaveTightWrongFalsely : Prop := weaveTightRow.holds Try.pinned (OpenSpec.ofChange weaveTightWrong)

/-- 'relievolaw13.WeaveCounts': WHATEVER THE INPUT: true; the input reads as it did. -/
def weaveCountsSpec : ChangeSpec := { name := "weaveCounts", fn := fun _ => fun
  | [d] => { results := [.lit (.bool true)], args := [d] }
  | _ => none }
def weaveCountsRow : OpenClaim := { program := "ytoalihdempcbjaa", sum := "411daed878eeef6e3bb8d9908556d51a32640e64485d5def62cbe3965ab13aad", func := "relievo/relievolaw13.WeaveCounts", spec := "weaveCounts", plainKeys := false, apart := false }
def WeaveCountsSaid : Prop := weaveCountsRow.holds Try.pinned (OpenSpec.ofChange weaveCountsSpec)

/-- ITS FALSE NEIGHBOUR: 'it returns false'. Refute it at one input. -/
def weaveCountsWrong : ChangeSpec := { name := "weaveCounts", fn := fun _ => fun
  | [d] => { results := [.lit (.bool false)], args := [d] }
  | _ => none }
def WeaveCountsWrongFalsely : Prop := weaveCountsRow.holds Try.pinned (OpenSpec.ofChange weaveCountsWrong)

/-- 'relievolaw13.WeaveFlat': WHATEVER THE INPUT: true; the input reads as it did. -/
def weaveFlatSpec : ChangeSpec := { name := "weaveFlat", fn := fun _ => fun
  | [d] => { results := [.lit (.bool true)], args := [d] }
  | _ => none }
def weaveFlatRow : OpenClaim := { program := "ytoalihdempcbjaa", sum := "411daed878eeef6e3bb8d9908556d51a32640e64485d5def62cbe3965ab13aad", func := "relievo/relievolaw13.WeaveFlat", spec := "weaveFlat", plainKeys := false, apart := false }
def WeaveFlatSaid : Prop := weaveFlatRow.holds Try.pinned (OpenSpec.ofChange weaveFlatSpec)

/-- ITS FALSE NEIGHBOUR: 'it returns false'. Refute it at one input. -/
def weaveFlatWrong : ChangeSpec := { name := "weaveFlat", fn := fun _ => fun
  | [d] => { results := [.lit (.bool false)], args := [d] }
  | _ => none }
def WeaveFlatWrongFalsely : Prop := weaveFlatRow.holds Try.pinned (OpenSpec.ofChange weaveFlatWrong)

/-- 'relievolaw13.WeaveEven': WHATEVER THE INPUT: true; the input reads as it did. -/
def weaveEvenSpec : ChangeSpec := { name := "weaveEven", fn := fun _ => fun
  | [d] => { results := [.lit (.bool true)], args := [d] }
  | _ => none }
def weaveEvenRow : OpenClaim := { program := "ytoalihdempcbjaa", sum := "411daed878eeef6e3bb8d9908556d51a32640e64485d5def62cbe3965ab13aad", func := "relievo/relievolaw13.WeaveEven", spec := "weaveEven", plainKeys := false, apart := false }
def WeaveEvenSaid : Prop := weaveEvenRow.holds Try.pinned (OpenSpec.ofChange weaveEvenSpec)

/-- ITS FALSE NEIGHBOUR: 'it returns false'. Refute it at one input. -/
def weaveEvenWrong : ChangeSpec := { name := "weaveEven", fn := fun _ => fun
  | [d] => { results := [.lit (.bool false)], args := [d] }
  | _ => none }
def WeaveEvenWrongFalsely : Prop := weaveEvenRow.holds Try.pinned (OpenSpec.ofChange weaveEvenWrong)

/- THE SECOND FORM. 'bulk': how many values and letters a reading holds, each counted each time it is reached (what is shared counts as often as it is met; a slice's spare places count too). A statement '..UptoSaid' is the law's where the arguments, and the package variables that the reading takes, are together of bulk at most 1048576: NARROWER than '..Said'. Prove '..Said' where nothing that the law and all that it calls make is longer than what came in: it says more and counts as full. Else prove '..UptoSaid'. A law counts once. -/
mutual
def uptoBulk {H : Type} : DataW H → Nat
  | .lit (.string bytes) => bytes.length + 1
  | .lit _ => 1
  | .nil => 1
  | .ptr d => uptoBulk d + 1
  | .slice elems spare => uptoBulkAll elems + uptoBulkAll spare + 1
  | .agg parts => uptoBulkAll parts + 1
  | .iface _ d => uptoBulk d + 1
  | .map entries => uptoBulkEntries entries + 1
  | .held _ => 1
def uptoBulkAll {H : Type} : List (DataW H) → Nat
  | [] => 0
  | d :: r => uptoBulk d + uptoBulkAll r
def uptoBulkEntries {H : Type} : List (Lit × DataW H) → Nat
  | [] => 0
  | x :: r => uptoBulkEntry x + uptoBulkEntries r
def uptoBulkEntry {H : Type} : Lit × DataW H → Nat
  | (.string bytes, d) => bytes.length + uptoBulk d + 1
  | (_, d) => uptoBulk d + 1
 end
def uptoSmall : (H : Type) → List (DataW H) → Bool := fun _ ds => decide (uptoBulkAll ds ≤ 1048576)
def OpenSpec.upto (s : _root_.Go.ChangeSpec) : _root_.Go.OpenSpec := { _root_.Go.OpenSpec.ofChange s with cond := some uptoSmall }

/-- 'relievolaw21.ViewAnswers', WHERE WHAT IT READS IS OF BULK AT MOST 1048576: true; the input reads as it did. -/
def viewAnswersUptoRow : OpenClaim := { program := "ytoalihdempcbjaa", sum := "411daed878eeef6e3bb8d9908556d51a32640e64485d5def62cbe3965ab13aad", func := "relievo/relievolaw21.ViewAnswers", spec := "viewAnswers", plainKeys := false, apart := false, narrowed := true }
def ViewAnswersUptoSaid : Prop := viewAnswersUptoRow.holds Try.pinned (OpenSpec.upto viewAnswersSpec)

/-- 'relievolaw21.ViewTiles', WHERE WHAT IT READS IS OF BULK AT MOST 1048576: true; the input reads as it did. -/
def viewTilesUptoRow : OpenClaim := { program := "ytoalihdempcbjaa", sum := "411daed878eeef6e3bb8d9908556d51a32640e64485d5def62cbe3965ab13aad", func := "relievo/relievolaw21.ViewTiles", spec := "viewTiles", plainKeys := false, apart := false, narrowed := true }
def ViewTilesUptoSaid : Prop := viewTilesUptoRow.holds Try.pinned (OpenSpec.upto viewTilesSpec)

/-- 'relievolaw21.ViewSteps', WHERE WHAT IT READS IS OF BULK AT MOST 1048576: true; the input reads as it did. -/
def viewStepsUptoRow : OpenClaim := { program := "ytoalihdempcbjaa", sum := "411daed878eeef6e3bb8d9908556d51a32640e64485d5def62cbe3965ab13aad", func := "relievo/relievolaw21.ViewSteps", spec := "viewSteps", plainKeys := false, apart := false, narrowed := true }
def ViewStepsUptoSaid : Prop := viewStepsUptoRow.holds Try.pinned (OpenSpec.upto viewStepsSpec)

/-- 'relievolaw21.ViewOrder', WHERE WHAT IT READS IS OF BULK AT MOST 1048576: true; the input reads as it did. -/
def viewOrderUptoRow : OpenClaim := { program := "ytoalihdempcbjaa", sum := "411daed878eeef6e3bb8d9908556d51a32640e64485d5def62cbe3965ab13aad", func := "relievo/relievolaw21.ViewOrder", spec := "viewOrder", plainKeys := false, apart := false, narrowed := true }
def ViewOrderUptoSaid : Prop := viewOrderUptoRow.holds Try.pinned (OpenSpec.upto viewOrderSpec)

/-- 'relievolaw13.WeaveSpots', WHERE WHAT IT READS IS OF BULK AT MOST 1048576: true; the input reads as it did. -/
def weaveSpotsUptoRow : OpenClaim := { program := "ytoalihdempcbjaa", sum := "411daed878eeef6e3bb8d9908556d51a32640e64485d5def62cbe3965ab13aad", func := "relievo/relievolaw13.WeaveSpots", spec := "weaveSpots", plainKeys := false, apart := false, narrowed := true }
def WeaveSpotsUptoSaid : Prop := weaveSpotsUptoRow.holds Try.pinned (OpenSpec.upto weaveSpotsSpec)

/-- 'relievolaw13.WeaveTight', WHERE WHAT IT READS IS OF BULK AT MOST 1048576: true; the input reads as it did. -/
def weaveTightUptoRow : OpenClaim := { program := "ytoalihdempcbjaa", sum := "411daed878eeef6e3bb8d9908556d51a32640e64485d5def62cbe3965ab13aad", func := "relievo/relievolaw13.WeaveTight", spec := "weaveTight", plainKeys := false, apart := false, narrowed := true }
def WeaveTightUptoSaid : Prop := weaveTightUptoRow.holds Try.pinned (OpenSpec.upto weaveTightSpec)

/-- 'relievolaw13.WeaveCounts', WHERE WHAT IT READS IS OF BULK AT MOST 1048576: true; the input reads as it did. -/
def weaveCountsUptoRow : OpenClaim := { program := "ytoalihdempcbjaa", sum := "411daed878eeef6e3bb8d9908556d51a32640e64485d5def62cbe3965ab13aad", func := "relievo/relievolaw13.WeaveCounts", spec := "weaveCounts", plainKeys := false, apart := false, narrowed := true }
def WeaveCountsUptoSaid : Prop := weaveCountsUptoRow.holds Try.pinned (OpenSpec.upto weaveCountsSpec)

/-- 'relievolaw13.WeaveFlat', WHERE WHAT IT READS IS OF BULK AT MOST 1048576: true; the input reads as it did. -/
def weaveFlatUptoRow : OpenClaim := { program := "ytoalihdempcbjaa", sum := "411daed878eeef6e3bb8d9908556d51a32640e64485d5def62cbe3965ab13aad", func := "relievo/relievolaw13.WeaveFlat", spec := "weaveFlat", plainKeys := false, apart := false, narrowed := true }
def WeaveFlatUptoSaid : Prop := weaveFlatUptoRow.holds Try.pinned (OpenSpec.upto weaveFlatSpec)

/-- 'relievolaw13.WeaveEven', WHERE WHAT IT READS IS OF BULK AT MOST 1048576: true; the input reads as it did. -/
def weaveEvenUptoRow : OpenClaim := { program := "ytoalihdempcbjaa", sum := "411daed878eeef6e3bb8d9908556d51a32640e64485d5def62cbe3965ab13aad", func := "relievo/relievolaw13.WeaveEven", spec := "weaveEven", plainKeys := false, apart := false, narrowed := true }
def WeaveEvenUptoSaid : Prop := weaveEvenUptoRow.holds Try.pinned (OpenSpec.upto weaveEvenSpec)

end Rows
end Go.Proofs.Ytoalihdempcbjaa
