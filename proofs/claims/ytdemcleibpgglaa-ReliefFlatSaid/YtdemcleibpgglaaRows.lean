/-
  No cell of these rows narrows 'for every input' (looked for: loops, veiled, ifaces, maps, wideKeys, modest, calm, conditions, laid).
  DERIVED. THE GIVEN ROWS OF THIS SEAT. 13 by the template 'for every input the law returns true; each argument reads behind the call as it read before'; 0 by the template 'total and deterministic' (their statements: YtdemcleibpgglaaTotals.lean).
  GIVEN WITH THE SEED: the statements are not yours to turn. If you find one false, say at which input.
  Laid BY PROGRAM, IN A SANDBOX (cutbox-rows.mjs): the forced cells as the released guide's own fill.sh prints them over the translation 899fa23bd9516206… (all of the seat's roots in one cut). By AI agents, Wed Nov 11 2026. No macro, syntax, notation, axiom, sorry.
-/
import Derived.Test.YtdemcleibpgglaaChecked
import GoSem.Claim
import GoSem.ClaimJoined
import GoSem.ClaimMapViews
import Derived.JoinedTies
import Derived.KernelRfl
namespace Go.Proofs.Ytdemcleibpgglaa
/- THE CELL 'sum', in the pinned program and in every row, IS THE sha256 OF THE DUMP (.gsa) THAT YtdemcleibpgglaaProg.lean LOADS. Nothing in Lean hashes anything: it is a label: what it is worth is what the hold of that sum in a sandbox is worth. -/
noncomputable def Try.pinned : Pinned := { name := "ytdemcleibpgglaa", sum := "899fa23bd9516206f8d9b4c390aff11086d7cf529b5ccd2c43fd266088bb0d15", checked := Try.checked }
namespace Rows
def none {H : Type} : Left H := { results := [], args := [] }

/-- 'relievolaw11.CurveBack': WHATEVER THE INPUT: true; the input reads as it did. -/
def curveBackSpec : ChangeSpec := { name := "curveBack", fn := fun _ => fun
  | [d1, d2, d3] => { results := [.lit (.bool true)], args := [d1, d2, d3] }
  | _ => none }
def curveBackRow : OpenClaim := { program := "ytdemcleibpgglaa", sum := "899fa23bd9516206f8d9b4c390aff11086d7cf529b5ccd2c43fd266088bb0d15", func := "relievo/relievolaw11.CurveBack", spec := "curveBack", unfollowed := true, recurses := true, apart := false }
def CurveBackSaid : Prop := curveBackRow.holds Try.pinned (OpenSpec.ofChange curveBackSpec)

/-- ITS FALSE NEIGHBOUR: 'it returns false'. Refute it at one input. -/
def curveBackWrong : ChangeSpec := { name := "curveBack", fn := fun _ => fun
  | [d1, d2, d3] => { results := [.lit (.bool false)], args := [d1, d2, d3] }
  | _ => none }
def CurveBackWrongFalsely : Prop := curveBackRow.holds Try.pinned (OpenSpec.ofChange curveBackWrong)

/-- 'relievolaw11.CurveMoved': WHATEVER THE INPUT: true; the input reads as it did. -/
def curveMovedSpec : ChangeSpec := { name := "curveMoved", fn := fun _ => fun
  | [d1, d2, d3, d4] => { results := [.lit (.bool true)], args := [d1, d2, d3, d4] }
  | _ => none }
def curveMovedRow : OpenClaim := { program := "ytdemcleibpgglaa", sum := "899fa23bd9516206f8d9b4c390aff11086d7cf529b5ccd2c43fd266088bb0d15", func := "relievo/relievolaw11.CurveMoved", spec := "curveMoved", unfollowed := true, recurses := true, apart := false }
def CurveMovedSaid : Prop := curveMovedRow.holds Try.pinned (OpenSpec.ofChange curveMovedSpec)

/-- ITS FALSE NEIGHBOUR: 'it returns false'. Refute it at one input. -/
def curveMovedWrong : ChangeSpec := { name := "curveMoved", fn := fun _ => fun
  | [d1, d2, d3, d4] => { results := [.lit (.bool false)], args := [d1, d2, d3, d4] }
  | _ => none }
def CurveMovedWrongFalsely : Prop := curveMovedRow.holds Try.pinned (OpenSpec.ofChange curveMovedWrong)

/-- 'relievolaw11.CurveFlat': WHATEVER THE INPUT: true; the input reads as it did. -/
def curveFlatSpec : ChangeSpec := { name := "curveFlat", fn := fun _ => fun
  | [d1, d2, d3] => { results := [.lit (.bool true)], args := [d1, d2, d3] }
  | _ => none }
def curveFlatRow : OpenClaim := { program := "ytdemcleibpgglaa", sum := "899fa23bd9516206f8d9b4c390aff11086d7cf529b5ccd2c43fd266088bb0d15", func := "relievo/relievolaw11.CurveFlat", spec := "curveFlat", unfollowed := true, recurses := true, apart := false }
def CurveFlatSaid : Prop := curveFlatRow.holds Try.pinned (OpenSpec.ofChange curveFlatSpec)

/-- ITS FALSE NEIGHBOUR: 'it returns false'. Refute it at one input. -/
def curveFlatWrong : ChangeSpec := { name := "curveFlat", fn := fun _ => fun
  | [d1, d2, d3] => { results := [.lit (.bool false)], args := [d1, d2, d3] }
  | _ => none }
def CurveFlatWrongFalsely : Prop := curveFlatRow.holds Try.pinned (OpenSpec.ofChange curveFlatWrong)

/-- 'relievolaw14.ReliefNear': WHATEVER THE INPUT: true; the input reads as it did. -/
def reliefNearSpec : ChangeSpec := { name := "reliefNear", fn := fun _ => fun
  | [d1, d2, d3, d4] => { results := [.lit (.bool true)], args := [d1, d2, d3, d4] }
  | _ => none }
def reliefNearRow : OpenClaim := { program := "ytdemcleibpgglaa", sum := "899fa23bd9516206f8d9b4c390aff11086d7cf529b5ccd2c43fd266088bb0d15", func := "relievo/relievolaw14.ReliefNear", spec := "reliefNear", apart := false }
def ReliefNearSaid : Prop := reliefNearRow.holds Try.pinned (OpenSpec.ofChange reliefNearSpec)

/-- ITS FALSE NEIGHBOUR: 'it returns false'. Refute it at one input. -/
def reliefNearWrong : ChangeSpec := { name := "reliefNear", fn := fun _ => fun
  | [d1, d2, d3, d4] => { results := [.lit (.bool false)], args := [d1, d2, d3, d4] }
  | _ => none }
def ReliefNearWrongFalsely : Prop := reliefNearRow.holds Try.pinned (OpenSpec.ofChange reliefNearWrong)

/-- 'relievolaw14.ReliefRepeats': WHATEVER THE INPUT: true; the input reads as it did. -/
def reliefRepeatsSpec : ChangeSpec := { name := "reliefRepeats", fn := fun _ => fun
  | [d1, d2, d3] => { results := [.lit (.bool true)], args := [d1, d2, d3] }
  | _ => none }
def reliefRepeatsRow : OpenClaim := { program := "ytdemcleibpgglaa", sum := "899fa23bd9516206f8d9b4c390aff11086d7cf529b5ccd2c43fd266088bb0d15", func := "relievo/relievolaw14.ReliefRepeats", spec := "reliefRepeats", apart := false }
def ReliefRepeatsSaid : Prop := reliefRepeatsRow.holds Try.pinned (OpenSpec.ofChange reliefRepeatsSpec)

/-- ITS FALSE NEIGHBOUR: 'it returns false'. Refute it at one input. -/
def reliefRepeatsWrong : ChangeSpec := { name := "reliefRepeats", fn := fun _ => fun
  | [d1, d2, d3] => { results := [.lit (.bool false)], args := [d1, d2, d3] }
  | _ => none }
def ReliefRepeatsWrongFalsely : Prop := reliefRepeatsRow.holds Try.pinned (OpenSpec.ofChange reliefRepeatsWrong)

/-- 'relievolaw14.ReliefFlat': WHATEVER THE INPUT: true; the input reads as it did. -/
def reliefFlatSpec : ChangeSpec := { name := "reliefFlat", fn := fun _ => fun
  | [d1, d2, d3, d4, d5] => { results := [.lit (.bool true)], args := [d1, d2, d3, d4, d5] }
  | _ => none }
def reliefFlatRow : OpenClaim := { program := "ytdemcleibpgglaa", sum := "899fa23bd9516206f8d9b4c390aff11086d7cf529b5ccd2c43fd266088bb0d15", func := "relievo/relievolaw14.ReliefFlat", spec := "reliefFlat", apart := false }
def ReliefFlatSaid : Prop := reliefFlatRow.holds Try.pinned (OpenSpec.ofChange reliefFlatSpec)

/-- ITS FALSE NEIGHBOUR: 'it returns false'. Refute it at one input. -/
def reliefFlatWrong : ChangeSpec := { name := "reliefFlat", fn := fun _ => fun
  | [d1, d2, d3, d4, d5] => { results := [.lit (.bool false)], args := [d1, d2, d3, d4, d5] }
  | _ => none }
def ReliefFlatWrongFalsely : Prop := reliefFlatRow.holds Try.pinned (OpenSpec.ofChange reliefFlatWrong)

/-- 'relievolaw11.CurveInside': WHATEVER THE INPUT: true; the input reads as it did. -/
def curveInsideSpec : ChangeSpec := { name := "curveInside", fn := fun _ => fun
  | [d1, d2, d3, d4, d5] => { results := [.lit (.bool true)], args := [d1, d2, d3, d4, d5] }
  | _ => none }
def curveInsideRow : OpenClaim := { program := "ytdemcleibpgglaa", sum := "899fa23bd9516206f8d9b4c390aff11086d7cf529b5ccd2c43fd266088bb0d15", func := "relievo/relievolaw11.CurveInside", spec := "curveInside", unfollowed := true, recurses := true, apart := false }
def CurveInsideSaid : Prop := curveInsideRow.holds Try.pinned (OpenSpec.ofChange curveInsideSpec)

/-- ITS FALSE NEIGHBOUR: 'it returns false'. Refute it at one input. -/
def curveInsideWrong : ChangeSpec := { name := "curveInside", fn := fun _ => fun
  | [d1, d2, d3, d4, d5] => { results := [.lit (.bool false)], args := [d1, d2, d3, d4, d5] }
  | _ => none }
def CurveInsideWrongFalsely : Prop := curveInsideRow.holds Try.pinned (OpenSpec.ofChange curveInsideWrong)

/-- 'relievolaw11.CurvePoints': WHATEVER THE INPUT: true; the input reads as it did. -/
def curvePointsSpec : ChangeSpec := { name := "curvePoints", fn := fun _ => fun
  | [d1, d2, d3, d4, d5] => { results := [.lit (.bool true)], args := [d1, d2, d3, d4, d5] }
  | _ => none }
def curvePointsRow : OpenClaim := { program := "ytdemcleibpgglaa", sum := "899fa23bd9516206f8d9b4c390aff11086d7cf529b5ccd2c43fd266088bb0d15", func := "relievo/relievolaw11.CurvePoints", spec := "curvePoints", unfollowed := true, recurses := true, apart := false }
def CurvePointsSaid : Prop := curvePointsRow.holds Try.pinned (OpenSpec.ofChange curvePointsSpec)

/-- ITS FALSE NEIGHBOUR: 'it returns false'. Refute it at one input. -/
def curvePointsWrong : ChangeSpec := { name := "curvePoints", fn := fun _ => fun
  | [d1, d2, d3, d4, d5] => { results := [.lit (.bool false)], args := [d1, d2, d3, d4, d5] }
  | _ => none }
def CurvePointsWrongFalsely : Prop := curvePointsRow.holds Try.pinned (OpenSpec.ofChange curvePointsWrong)

/-- 'relievolaw11.CurveSides': WHATEVER THE INPUT: true; the input reads as it did. -/
def curveSidesSpec : ChangeSpec := { name := "curveSides", fn := fun _ => fun
  | [d1, d2, d3] => { results := [.lit (.bool true)], args := [d1, d2, d3] }
  | _ => none }
def curveSidesRow : OpenClaim := { program := "ytdemcleibpgglaa", sum := "899fa23bd9516206f8d9b4c390aff11086d7cf529b5ccd2c43fd266088bb0d15", func := "relievo/relievolaw11.CurveSides", spec := "curveSides", unfollowed := true, recurses := true, apart := false }
def CurveSidesSaid : Prop := curveSidesRow.holds Try.pinned (OpenSpec.ofChange curveSidesSpec)

/-- ITS FALSE NEIGHBOUR: 'it returns false'. Refute it at one input. -/
def curveSidesWrong : ChangeSpec := { name := "curveSides", fn := fun _ => fun
  | [d1, d2, d3] => { results := [.lit (.bool false)], args := [d1, d2, d3] }
  | _ => none }
def CurveSidesWrongFalsely : Prop := curveSidesRow.holds Try.pinned (OpenSpec.ofChange curveSidesWrong)

/-- 'relievolaw11.CurveCorners': WHATEVER THE INPUT: true; the input reads as it did. -/
def curveCornersSpec : ChangeSpec := { name := "curveCorners", fn := fun _ => fun
  | [d1, d2] => { results := [.lit (.bool true)], args := [d1, d2] }
  | _ => none }
def curveCornersRow : OpenClaim := { program := "ytdemcleibpgglaa", sum := "899fa23bd9516206f8d9b4c390aff11086d7cf529b5ccd2c43fd266088bb0d15", func := "relievo/relievolaw11.CurveCorners", spec := "curveCorners", unfollowed := true, recurses := true, apart := false }
def CurveCornersSaid : Prop := curveCornersRow.holds Try.pinned (OpenSpec.ofChange curveCornersSpec)

/-- ITS FALSE NEIGHBOUR: 'it returns false'. Refute it at one input. -/
def curveCornersWrong : ChangeSpec := { name := "curveCorners", fn := fun _ => fun
  | [d1, d2] => { results := [.lit (.bool false)], args := [d1, d2] }
  | _ => none }
def CurveCornersWrongFalsely : Prop := curveCornersRow.holds Try.pinned (OpenSpec.ofChange curveCornersWrong)

/-- 'relievolaw14.ReliefAnswers': WHATEVER THE INPUT: true; the input reads as it did. -/
def reliefAnswersSpec : ChangeSpec := { name := "reliefAnswers", fn := fun _ => fun
  | [d1, d2, d3, d4, d5, d6, d7, d8, d9] => { results := [.lit (.bool true)], args := [d1, d2, d3, d4, d5, d6, d7, d8, d9] }
  | _ => none }
def reliefAnswersRow : OpenClaim := { program := "ytdemcleibpgglaa", sum := "899fa23bd9516206f8d9b4c390aff11086d7cf529b5ccd2c43fd266088bb0d15", func := "relievo/relievolaw14.ReliefAnswers", spec := "reliefAnswers", apart := false }
def ReliefAnswersSaid : Prop := reliefAnswersRow.holds Try.pinned (OpenSpec.ofChange reliefAnswersSpec)

/-- ITS FALSE NEIGHBOUR: 'it returns false'. Refute it at one input. -/
def reliefAnswersWrong : ChangeSpec := { name := "reliefAnswers", fn := fun _ => fun
  | [d1, d2, d3, d4, d5, d6, d7, d8, d9] => { results := [.lit (.bool false)], args := [d1, d2, d3, d4, d5, d6, d7, d8, d9] }
  | _ => none }
def ReliefAnswersWrongFalsely : Prop := reliefAnswersRow.holds Try.pinned (OpenSpec.ofChange reliefAnswersWrong)

/-- 'relievolaw14.ReliefSides': WHATEVER THE INPUT: true; the input reads as it did. -/
def reliefSidesSpec : ChangeSpec := { name := "reliefSides", fn := fun _ => fun
  | [d1, d2, d3] => { results := [.lit (.bool true)], args := [d1, d2, d3] }
  | _ => none }
def reliefSidesRow : OpenClaim := { program := "ytdemcleibpgglaa", sum := "899fa23bd9516206f8d9b4c390aff11086d7cf529b5ccd2c43fd266088bb0d15", func := "relievo/relievolaw14.ReliefSides", spec := "reliefSides", apart := false }
def ReliefSidesSaid : Prop := reliefSidesRow.holds Try.pinned (OpenSpec.ofChange reliefSidesSpec)

/-- ITS FALSE NEIGHBOUR: 'it returns false'. Refute it at one input. -/
def reliefSidesWrong : ChangeSpec := { name := "reliefSides", fn := fun _ => fun
  | [d1, d2, d3] => { results := [.lit (.bool false)], args := [d1, d2, d3] }
  | _ => none }
def ReliefSidesWrongFalsely : Prop := reliefSidesRow.holds Try.pinned (OpenSpec.ofChange reliefSidesWrong)

/-- 'relievolaw14.ReliefBlends': WHATEVER THE INPUT: true; the input reads as it did. -/
def reliefBlendsSpec : ChangeSpec := { name := "reliefBlends", fn := fun _ => fun
  | [d1, d2, d3, d4] => { results := [.lit (.bool true)], args := [d1, d2, d3, d4] }
  | _ => none }
def reliefBlendsRow : OpenClaim := { program := "ytdemcleibpgglaa", sum := "899fa23bd9516206f8d9b4c390aff11086d7cf529b5ccd2c43fd266088bb0d15", func := "relievo/relievolaw14.ReliefBlends", spec := "reliefBlends", apart := false }
def ReliefBlendsSaid : Prop := reliefBlendsRow.holds Try.pinned (OpenSpec.ofChange reliefBlendsSpec)

/-- ITS FALSE NEIGHBOUR: 'it returns false'. Refute it at one input. -/
def reliefBlendsWrong : ChangeSpec := { name := "reliefBlends", fn := fun _ => fun
  | [d1, d2, d3, d4] => { results := [.lit (.bool false)], args := [d1, d2, d3, d4] }
  | _ => none }
def ReliefBlendsWrongFalsely : Prop := reliefBlendsRow.holds Try.pinned (OpenSpec.ofChange reliefBlendsWrong)

/- THE SECOND FORM. 'bulk': how many values and letters a reading holds, each counted each time it is reached (what is shared counts as often as it is met; a slice's spare places count too). A statement '..UptoSaid' is the law's where the arguments, and the package variables that the reading takes, are together of bulk at most 1048576: NARROWER than '..Said'. Prove '..Said' where nothing that the law and all that it calls make is longer than what came in: it says more and counts as full. Else prove '..UptoSaid'. A law counts once. -/
mutual
def uptoBulk {H : Type} : DataW H → Nat
  | .lit (.string bytes) => bytes.length + 1
  | .lit _ => 1
  | .nil => 1
  | .ptr d => uptoBulk d + 1
  | .slice elems spare => uptoBulkAll elems + uptoBulkAll spare + 1
  | .agg parts => uptoBulkAll parts + 1
  | .iface _ d => uptoBulk d + 1
  | .map entries => uptoBulkEntries entries + 1
  | .held _ => 1
def uptoBulkAll {H : Type} : List (DataW H) → Nat
  | [] => 0
  | d :: r => uptoBulk d + uptoBulkAll r
def uptoBulkEntries {H : Type} : List (Lit × DataW H) → Nat
  | [] => 0
  | x :: r => uptoBulkEntry x + uptoBulkEntries r
def uptoBulkEntry {H : Type} : Lit × DataW H → Nat
  | (.string bytes, d) => bytes.length + uptoBulk d + 1
  | (_, d) => uptoBulk d + 1
 end
def uptoSmall : (H : Type) → List (DataW H) → Bool := fun _ ds => decide (uptoBulkAll ds ≤ 1048576)
def OpenSpec.upto (s : _root_.Go.ChangeSpec) : _root_.Go.OpenSpec := { _root_.Go.OpenSpec.ofChange s with cond := some uptoSmall }

/-- 'relievolaw11.CurveBack', WHERE WHAT IT READS IS OF BULK AT MOST 1048576: true; the input reads as it did. -/
def curveBackUptoRow : OpenClaim := { program := "ytdemcleibpgglaa", sum := "899fa23bd9516206f8d9b4c390aff11086d7cf529b5ccd2c43fd266088bb0d15", func := "relievo/relievolaw11.CurveBack", spec := "curveBack", unfollowed := true, recurses := true, apart := false, narrowed := true }
def CurveBackUptoSaid : Prop := curveBackUptoRow.holds Try.pinned (OpenSpec.upto curveBackSpec)

/-- 'relievolaw11.CurveMoved', WHERE WHAT IT READS IS OF BULK AT MOST 1048576: true; the input reads as it did. -/
def curveMovedUptoRow : OpenClaim := { program := "ytdemcleibpgglaa", sum := "899fa23bd9516206f8d9b4c390aff11086d7cf529b5ccd2c43fd266088bb0d15", func := "relievo/relievolaw11.CurveMoved", spec := "curveMoved", unfollowed := true, recurses := true, apart := false, narrowed := true }
def CurveMovedUptoSaid : Prop := curveMovedUptoRow.holds Try.pinned (OpenSpec.upto curveMovedSpec)

/-- 'relievolaw11.CurveFlat', WHERE WHAT IT READS IS OF BULK AT MOST 1048576: true; the input reads as it did. -/
def curveFlatUptoRow : OpenClaim := { program := "ytdemcleibpgglaa", sum := "899fa23bd9516206f8d9b4c390aff11086d7cf529b5ccd2c43fd266088bb0d15", func := "relievo/relievolaw11.CurveFlat", spec := "curveFlat", unfollowed := true, recurses := true, apart := false, narrowed := true }
def CurveFlatUptoSaid : Prop := curveFlatUptoRow.holds Try.pinned (OpenSpec.upto curveFlatSpec)

/-- 'relievolaw14.ReliefNear', WHERE WHAT IT READS IS OF BULK AT MOST 1048576: true; the input reads as it did. -/
def reliefNearUptoRow : OpenClaim := { program := "ytdemcleibpgglaa", sum := "899fa23bd9516206f8d9b4c390aff11086d7cf529b5ccd2c43fd266088bb0d15", func := "relievo/relievolaw14.ReliefNear", spec := "reliefNear", apart := false, narrowed := true }
def ReliefNearUptoSaid : Prop := reliefNearUptoRow.holds Try.pinned (OpenSpec.upto reliefNearSpec)

/-- 'relievolaw14.ReliefRepeats', WHERE WHAT IT READS IS OF BULK AT MOST 1048576: true; the input reads as it did. -/
def reliefRepeatsUptoRow : OpenClaim := { program := "ytdemcleibpgglaa", sum := "899fa23bd9516206f8d9b4c390aff11086d7cf529b5ccd2c43fd266088bb0d15", func := "relievo/relievolaw14.ReliefRepeats", spec := "reliefRepeats", apart := false, narrowed := true }
def ReliefRepeatsUptoSaid : Prop := reliefRepeatsUptoRow.holds Try.pinned (OpenSpec.upto reliefRepeatsSpec)

/-- 'relievolaw14.ReliefFlat', WHERE WHAT IT READS IS OF BULK AT MOST 1048576: true; the input reads as it did. -/
def reliefFlatUptoRow : OpenClaim := { program := "ytdemcleibpgglaa", sum := "899fa23bd9516206f8d9b4c390aff11086d7cf529b5ccd2c43fd266088bb0d15", func := "relievo/relievolaw14.ReliefFlat", spec := "reliefFlat", apart := false, narrowed := true }
def ReliefFlatUptoSaid : Prop := reliefFlatUptoRow.holds Try.pinned (OpenSpec.upto reliefFlatSpec)

/-- 'relievolaw11.CurveInside', WHERE WHAT IT READS IS OF BULK AT MOST 1048576: true; the input reads as it did. -/
def curveInsideUptoRow : OpenClaim := { program := "ytdemcleibpgglaa", sum := "899fa23bd9516206f8d9b4c390aff11086d7cf529b5ccd2c43fd266088bb0d15", func := "relievo/relievolaw11.CurveInside", spec := "curveInside", unfollowed := true, recurses := true, apart := false, narrowed := true }
def CurveInsideUptoSaid : Prop := curveInsideUptoRow.holds Try.pinned (OpenSpec.upto curveInsideSpec)

/-- 'relievolaw11.CurvePoints', WHERE WHAT IT READS IS OF BULK AT MOST 1048576: true; the input reads as it did. -/
def curvePointsUptoRow : OpenClaim := { program := "ytdemcleibpgglaa", sum := "899fa23bd9516206f8d9b4c390aff11086d7cf529b5ccd2c43fd266088bb0d15", func := "relievo/relievolaw11.CurvePoints", spec := "curvePoints", unfollowed := true, recurses := true, apart := false, narrowed := true }
def CurvePointsUptoSaid : Prop := curvePointsUptoRow.holds Try.pinned (OpenSpec.upto curvePointsSpec)

/-- 'relievolaw11.CurveSides', WHERE WHAT IT READS IS OF BULK AT MOST 1048576: true; the input reads as it did. -/
def curveSidesUptoRow : OpenClaim := { program := "ytdemcleibpgglaa", sum := "899fa23bd9516206f8d9b4c390aff11086d7cf529b5ccd2c43fd266088bb0d15", func := "relievo/relievolaw11.CurveSides", spec := "curveSides", unfollowed := true, recurses := true, apart := false, narrowed := true }
def CurveSidesUptoSaid : Prop := curveSidesUptoRow.holds Try.pinned (OpenSpec.upto curveSidesSpec)

/-- 'relievolaw11.CurveCorners', WHERE WHAT IT READS IS OF BULK AT MOST 1048576: true; the input reads as it did. -/
def curveCornersUptoRow : OpenClaim := { program := "ytdemcleibpgglaa", sum := "899fa23bd9516206f8d9b4c390aff11086d7cf529b5ccd2c43fd266088bb0d15", func := "relievo/relievolaw11.CurveCorners", spec := "curveCorners", unfollowed := true, recurses := true, apart := false, narrowed := true }
def CurveCornersUptoSaid : Prop := curveCornersUptoRow.holds Try.pinned (OpenSpec.upto curveCornersSpec)

/-- 'relievolaw14.ReliefAnswers', WHERE WHAT IT READS IS OF BULK AT MOST 1048576: true; the input reads as it did. -/
def reliefAnswersUptoRow : OpenClaim := { program := "ytdemcleibpgglaa", sum := "899fa23bd9516206f8d9b4c390aff11086d7cf529b5ccd2c43fd266088bb0d15", func := "relievo/relievolaw14.ReliefAnswers", spec := "reliefAnswers", apart := false, narrowed := true }
def ReliefAnswersUptoSaid : Prop := reliefAnswersUptoRow.holds Try.pinned (OpenSpec.upto reliefAnswersSpec)

/-- 'relievolaw14.ReliefSides', WHERE WHAT IT READS IS OF BULK AT MOST 1048576: true; the input reads as it did. -/
def reliefSidesUptoRow : OpenClaim := { program := "ytdemcleibpgglaa", sum := "899fa23bd9516206f8d9b4c390aff11086d7cf529b5ccd2c43fd266088bb0d15", func := "relievo/relievolaw14.ReliefSides", spec := "reliefSides", apart := false, narrowed := true }
def ReliefSidesUptoSaid : Prop := reliefSidesUptoRow.holds Try.pinned (OpenSpec.upto reliefSidesSpec)

/-- 'relievolaw14.ReliefBlends', WHERE WHAT IT READS IS OF BULK AT MOST 1048576: true; the input reads as it did. -/
def reliefBlendsUptoRow : OpenClaim := { program := "ytdemcleibpgglaa", sum := "899fa23bd9516206f8d9b4c390aff11086d7cf529b5ccd2c43fd266088bb0d15", func := "relievo/relievolaw14.ReliefBlends", spec := "reliefBlends", apart := false, narrowed := true }
def ReliefBlendsUptoSaid : Prop := reliefBlendsUptoRow.holds Try.pinned (OpenSpec.upto reliefBlendsSpec)

end Rows
end Go.Proofs.Ytdemcleibpgglaa
