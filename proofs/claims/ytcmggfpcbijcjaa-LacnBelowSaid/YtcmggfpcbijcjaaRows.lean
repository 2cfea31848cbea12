/-
  No cell of these rows narrows 'for every input' (looked for: loops, veiled, ifaces, maps, wideKeys, modest, calm, conditions, laid).
  DERIVED. THE GIVEN ROWS OF THIS SEAT. 21 by the template 'for every input the law returns true; each argument reads behind the call as it read before'; 0 by the template 'total and deterministic' (their statements: YtcmggfpcbijcjaaTotals.lean).
  GIVEN WITH THE SEED: the statements are not yours to turn. If you find one false, say at which input.
  Laid BY PROGRAM, IN A SANDBOX (cutbox-rows.mjs): the forced cells as the released guide's own fill.sh prints them over the translation 2808b129937d0cd6… (all of the seat's roots in one cut). By AI agents, Wed Nov 11 2026. No macro, syntax, notation, axiom, sorry.
-/
import Derived.Test.YtcmggfpcbijcjaaChecked
import GoSem.Claim
import GoSem.ClaimJoined
import GoSem.ClaimMapViews
import Derived.JoinedTies
import Derived.KernelRfl
namespace Go.Proofs.Ytcmggfpcbijcjaa
/- THE CELL 'sum', in the pinned program and in every row, IS THE sha256 OF THE DUMP (.gsa) THAT YtcmggfpcbijcjaaProg.lean LOADS. Nothing in Lean hashes anything: it is a label: what it is worth is what the hold of that sum in a sandbox is worth. -/
noncomputable def Try.pinned : Pinned := { name := "ytcmggfpcbijcjaa", sum := "2808b129937d0cd66901ade1bc51e5bd202458955c0ba0d05fc90171b902a03d", checked := Try.checked }
namespace Rows
def none {H : Type} : Left H := { results := [], args := [] }

/-- 'straightedgelaw06.AxesClose': WHATEVER THE INPUT: true; the input reads as it did. -/
def axesCloseSpec : ChangeSpec := { name := "axesClose", fn := fun _ => fun
  | [d1, d2, d3] => { results := [.lit (.bool true)], args := [d1, d2, d3] }
  | _ => none }
def axesCloseRow : OpenClaim := { program := "ytcmggfpcbijcjaa", sum := "2808b129937d0cd66901ade1bc51e5bd202458955c0ba0d05fc90171b902a03d", func := "straightedge/straightedgelaw06.AxesClose", spec := "axesClose", inPlace := ["math.Float64bits"], unfollowed := true, recurses := true, apart := false }
def AxesCloseSaid : Prop := axesCloseRow.holds Try.pinned (OpenSpec.ofChange axesCloseSpec)

/-- ITS FALSE NEIGHBOUR: 'it returns false'. Refute it at one input. -/
def axesCloseWrong : ChangeSpec := { name := "axesClose", fn := fun _ => fun
  | [d1, d2, d3] => { results := [.lit (.bool false)], args := [d1, d2, d3] }
  | _ => none }
def AxesCloseWrongFalsely : Prop := axesCloseRow.holds Try.pinned (OpenSpec.ofChange axesCloseWrong)

/-- 'straightedgelaw05.SumsLists': WHATEVER THE INPUT: true; the input reads as it did. -/
def sumsListsSpec : ChangeSpec := { name := "sumsLists", fn := fun _ => fun
  | [d] => { results := [.lit (.bool true)], args := [d] }
  | _ => none }
def sumsListsRow : OpenClaim := { program := "ytcmggfpcbijcjaa", sum := "2808b129937d0cd66901ade1bc51e5bd202458955c0ba0d05fc90171b902a03d", func := "straightedge/straightedgelaw05.SumsLists", spec := "sumsLists", inPlace := ["math.Float64bits", "math.Float64frombits"], apart := false }
def SumsListsSaid : Prop := sumsListsRow.holds Try.pinned (OpenSpec.ofChange sumsListsSpec)

/-- ITS FALSE NEIGHBOUR: 'it returns false'. Refute it at one input. -/
def sumsListsWrong : ChangeSpec := { name := "sumsLists", fn := fun _ => fun
  | [d] => { results := [.lit (.bool false)], args := [d] }
  | _ => none }
def SumsListsWrongFalsely : Prop := sumsListsRow.holds Try.pinned (OpenSpec.ofChange sumsListsWrong)

/-- 'straightedgelaw04.MoveRows': WHATEVER THE INPUT: true; the input reads as it did. -/
def moveRowsSpec : ChangeSpec := { name := "moveRows", fn := fun _ => fun
  | [d1, d2, d3, d4] => { results := [.lit (.bool true)], args := [d1, d2, d3, d4] }
  | _ => none }
def moveRowsRow : OpenClaim := { program := "ytcmggfpcbijcjaa", sum := "2808b129937d0cd66901ade1bc51e5bd202458955c0ba0d05fc90171b902a03d", func := "straightedge/straightedgelaw04.MoveRows", spec := "moveRows", inPlace := ["math.Float64bits"], apart := false }
def MoveRowsSaid : Prop := moveRowsRow.holds Try.pinned (OpenSpec.ofChange moveRowsSpec)

/-- ITS FALSE NEIGHBOUR: 'it returns false'. Refute it at one input. -/
def moveRowsWrong : ChangeSpec := { name := "moveRows", fn := fun _ => fun
  | [d1, d2, d3, d4] => { results := [.lit (.bool false)], args := [d1, d2, d3, d4] }
  | _ => none }
def MoveRowsWrongFalsely : Prop := moveRowsRow.holds Try.pinned (OpenSpec.ofChange moveRowsWrong)

/-- 'straightedgelaw08.GerTells': WHATEVER THE INPUT: true; the input reads as it did. -/
def gerTellsSpec : ChangeSpec := { name := "gerTells", fn := fun _ => fun
  | [d1, d2, d3, d4, d5] => { results := [.lit (.bool true)], args := [d1, d2, d3, d4, d5] }
  | _ => none }
def gerTellsRow : OpenClaim := { program := "ytcmggfpcbijcjaa", sum := "2808b129937d0cd66901ade1bc51e5bd202458955c0ba0d05fc90171b902a03d", func := "straightedge/straightedgelaw08.GerTells", spec := "gerTells", inPlace := ["math.Float64bits"], unfollowed := true, recurses := true, apart := false }
def GerTellsSaid : Prop := gerTellsRow.holds Try.pinned (OpenSpec.ofChange gerTellsSpec)

/-- ITS FALSE NEIGHBOUR: 'it returns false'. Refute it at one input. -/
def gerTellsWrong : ChangeSpec := { name := "gerTells", fn := fun _ => fun
  | [d1, d2, d3, d4, d5] => { results := [.lit (.bool false)], args := [d1, d2, d3, d4, d5] }
  | _ => none }
def GerTellsWrongFalsely : Prop := gerTellsRow.holds Try.pinned (OpenSpec.ofChange gerTellsWrong)

/-- 'straightedgelaw04.MoveVectors': WHATEVER THE INPUT: true; the input reads as it did. -/
def moveVectorsSpec : ChangeSpec := { name := "moveVectors", fn := fun _ => fun
  | [d1, d2, d3, d4] => { results := [.lit (.bool true)], args := [d1, d2, d3, d4] }
  | _ => none }
def moveVectorsRow : OpenClaim := { program := "ytcmggfpcbijcjaa", sum := "2808b129937d0cd66901ade1bc51e5bd202458955c0ba0d05fc90171b902a03d", func := "straightedge/straightedgelaw04.MoveVectors", spec := "moveVectors", inPlace := ["math.Float64bits"], apart := false }
def MoveVectorsSaid : Prop := moveVectorsRow.holds Try.pinned (OpenSpec.ofChange moveVectorsSpec)

/-- ITS FALSE NEIGHBOUR: 'it returns false'. Refute it at one input. -/
def moveVectorsWrong : ChangeSpec := { name := "moveVectors", fn := fun _ => fun
  | [d1, d2, d3, d4] => { results := [.lit (.bool false)], args := [d1, d2, d3, d4] }
  | _ => none }
def MoveVectorsWrongFalsely : Prop := moveVectorsRow.holds Try.pinned (OpenSpec.ofChange moveVectorsWrong)

/-- 'straightedgelaw07.GemvClose': WHATEVER THE INPUT: true; the input reads as it did. -/
def gemvCloseSpec : ChangeSpec := { name := "gemvClose", fn := fun _ => fun
  | [d1, d2, d3, d4] => { results := [.lit (.bool true)], args := [d1, d2, d3, d4] }
  | _ => none }
def gemvCloseRow : OpenClaim := { program := "ytcmggfpcbijcjaa", sum := "2808b129937d0cd66901ade1bc51e5bd202458955c0ba0d05fc90171b902a03d", func := "straightedge/straightedgelaw07.GemvClose", spec := "gemvClose", inPlace := ["math.Float64bits", "math.Float64frombits"], unfollowed := true, recurses := true, apart := false }
def GemvCloseSaid : Prop := gemvCloseRow.holds Try.pinned (OpenSpec.ofChange gemvCloseSpec)

/-- ITS FALSE NEIGHBOUR: 'it returns false'. Refute it at one input. -/
def gemvCloseWrong : ChangeSpec := { name := "gemvClose", fn := fun _ => fun
  | [d1, d2, d3, d4] => { results := [.lit (.bool false)], args := [d1, d2, d3, d4] }
  | _ => none }
def GemvCloseWrongFalsely : Prop := gemvCloseRow.holds Try.pinned (OpenSpec.ofChange gemvCloseWrong)

/-- 'straightedgelaw11.GemmTells': WHATEVER THE INPUT: true; the input reads as it did. -/
def gemmTellsSpec : ChangeSpec := { name := "gemmTells", fn := fun _ => fun
  | [d1, d2, d3, d4, d5, d6] => { results := [.lit (.bool true)], args := [d1, d2, d3, d4, d5, d6] }
  | _ => none }
def gemmTellsRow : OpenClaim := { program := "ytcmggfpcbijcjaa", sum := "2808b129937d0cd66901ade1bc51e5bd202458955c0ba0d05fc90171b902a03d", func := "straightedge/straightedgelaw11.GemmTells", spec := "gemmTells", inPlace := ["math.Float64bits"], unfollowed := true, recurses := true, apart := false }
def GemmTellsSaid : Prop := gemmTellsRow.holds Try.pinned (OpenSpec.ofChange gemmTellsSpec)

/-- ITS FALSE NEIGHBOUR: 'it returns false'. Refute it at one input. -/
def gemmTellsWrong : ChangeSpec := { name := "gemmTells", fn := fun _ => fun
  | [d1, d2, d3, d4, d5, d6] => { results := [.lit (.bool false)], args := [d1, d2, d3, d4, d5, d6] }
  | _ => none }
def GemmTellsWrongFalsely : Prop := gemmTellsRow.holds Try.pinned (OpenSpec.ofChange gemmTellsWrong)

/-- 'straightedgelaw09.TrsvSolves': WHATEVER THE INPUT: true; the input reads as it did. -/
def trsvSolvesSpec : ChangeSpec := { name := "trsvSolves", fn := fun _ => fun
  | [d1, d2, d3, d4] => { results := [.lit (.bool true)], args := [d1, d2, d3, d4] }
  | _ => none }
def trsvSolvesRow : OpenClaim := { program := "ytcmggfpcbijcjaa", sum := "2808b129937d0cd66901ade1bc51e5bd202458955c0ba0d05fc90171b902a03d", func := "straightedge/straightedgelaw09.TrsvSolves", spec := "trsvSolves", inPlace := ["math.Float64bits"], apart := false }
def TrsvSolvesSaid : Prop := trsvSolvesRow.holds Try.pinned (OpenSpec.ofChange trsvSolvesSpec)

/-- ITS FALSE NEIGHBOUR: 'it returns false'. Refute it at one input. -/
def trsvSolvesWrong : ChangeSpec := { name := "trsvSolves", fn := fun _ => fun
  | [d1, d2, d3, d4] => { results := [.lit (.bool false)], args := [d1, d2, d3, d4] }
  | _ => none }
def TrsvSolvesWrongFalsely : Prop := trsvSolvesRow.holds Try.pinned (OpenSpec.ofChange trsvSolvesWrong)

/-- 'straightedgelaw09.TrsvBackward': WHATEVER THE INPUT: true; the input reads as it did. -/
def trsvBackwardSpec : ChangeSpec := { name := "trsvBackward", fn := fun _ => fun
  | [d1, d2, d3] => { results := [.lit (.bool true)], args := [d1, d2, d3] }
  | _ => none }
def trsvBackwardRow : OpenClaim := { program := "ytcmggfpcbijcjaa", sum := "2808b129937d0cd66901ade1bc51e5bd202458955c0ba0d05fc90171b902a03d", func := "straightedge/straightedgelaw09.TrsvBackward", spec := "trsvBackward", inPlace := ["math.Float64bits"], apart := false }
def TrsvBackwardSaid : Prop := trsvBackwardRow.holds Try.pinned (OpenSpec.ofChange trsvBackwardSpec)

/-- ITS FALSE NEIGHBOUR: 'it returns false'. Refute it at one input. -/
def trsvBackwardWrong : ChangeSpec := { name := "trsvBackward", fn := fun _ => fun
  | [d1, d2, d3] => { results := [.lit (.bool false)], args := [d1, d2, d3] }
  | _ => none }
def TrsvBackwardWrongFalsely : Prop := trsvBackwardRow.holds Try.pinned (OpenSpec.ofChange trsvBackwardWrong)

/-- 'straightedgelaw07.GemvTurns': WHATEVER THE INPUT: true; the input reads as it did. -/
def gemvTurnsSpec : ChangeSpec := { name := "gemvTurns", fn := fun _ => fun
  | [d1, d2, d3, d4] => { results := [.lit (.bool true)], args := [d1, d2, d3, d4] }
  | _ => none }
def gemvTurnsRow : OpenClaim := { program := "ytcmggfpcbijcjaa", sum := "2808b129937d0cd66901ade1bc51e5bd202458955c0ba0d05fc90171b902a03d", func := "straightedge/straightedgelaw07.GemvTurns", spec := "gemvTurns", inPlace := ["math.Float64bits", "math.Float64frombits"], unfollowed := true, recurses := true, apart := false }
def GemvTurnsSaid : Prop := gemvTurnsRow.holds Try.pinned (OpenSpec.ofChange gemvTurnsSpec)

/-- ITS FALSE NEIGHBOUR: 'it returns false'. Refute it at one input. -/
def gemvTurnsWrong : ChangeSpec := { name := "gemvTurns", fn := fun _ => fun
  | [d1, d2, d3, d4] => { results := [.lit (.bool false)], args := [d1, d2, d3, d4] }
  | _ => none }
def GemvTurnsWrongFalsely : Prop := gemvTurnsRow.holds Try.pinned (OpenSpec.ofChange gemvTurnsWrong)

/-- 'straightedgelaw06.AxesBack': WHATEVER THE INPUT: true; the input reads as it did. -/
def axesBackSpec : ChangeSpec := { name := "axesBack", fn := fun _ => fun
  | [d1, d2] => { results := [.lit (.bool true)], args := [d1, d2] }
  | _ => none }
def axesBackRow : OpenClaim := { program := "ytcmggfpcbijcjaa", sum := "2808b129937d0cd66901ade1bc51e5bd202458955c0ba0d05fc90171b902a03d", func := "straightedge/straightedgelaw06.AxesBack", spec := "axesBack", inPlace := ["math.Float64bits", "math.Float64frombits"], unfollowed := true, recurses := true, apart := false }
def AxesBackSaid : Prop := axesBackRow.holds Try.pinned (OpenSpec.ofChange axesBackSpec)

/-- ITS FALSE NEIGHBOUR: 'it returns false'. Refute it at one input. -/
def axesBackWrong : ChangeSpec := { name := "axesBack", fn := fun _ => fun
  | [d1, d2] => { results := [.lit (.bool false)], args := [d1, d2] }
  | _ => none }
def AxesBackWrongFalsely : Prop := axesBackRow.holds Try.pinned (OpenSpec.ofChange axesBackWrong)

/-- 'straightedgelaw11.GemmWhole': WHATEVER THE INPUT: true; the input reads as it did. -/
def gemmWholeSpec : ChangeSpec := { name := "gemmWhole", fn := fun _ => fun
  | [d1, d2] => { results := [.lit (.bool true)], args := [d1, d2] }
  | _ => none }
def gemmWholeRow : OpenClaim := { program := "ytcmggfpcbijcjaa", sum := "2808b129937d0cd66901ade1bc51e5bd202458955c0ba0d05fc90171b902a03d", func := "straightedge/straightedgelaw11.GemmWhole", spec := "gemmWhole", inPlace := ["math.Float64bits"], unfollowed := true, recurses := true, apart := false }
def GemmWholeSaid : Prop := gemmWholeRow.holds Try.pinned (OpenSpec.ofChange gemmWholeSpec)

/-- ITS FALSE NEIGHBOUR: 'it returns false'. Refute it at one input. -/
def gemmWholeWrong : ChangeSpec := { name := "gemmWhole", fn := fun _ => fun
  | [d1, d2] => { results := [.lit (.bool false)], args := [d1, d2] }
  | _ => none }
def GemmWholeWrongFalsely : Prop := gemmWholeRow.holds Try.pinned (OpenSpec.ofChange gemmWholeWrong)

/-- 'straightedgelaw22.ResidBounds': WHATEVER THE INPUT: true; the input reads as it did. -/
def residBoundsSpec : ChangeSpec := { name := "residBounds", fn := fun _ => fun
  | [d1, d2] => { results := [.lit (.bool true)], args := [d1, d2] }
  | _ => none }
def residBoundsRow : OpenClaim := { program := "ytcmggfpcbijcjaa", sum := "2808b129937d0cd66901ade1bc51e5bd202458955c0ba0d05fc90171b902a03d", func := "straightedge/straightedgelaw22.ResidBounds", spec := "residBounds", inPlace := ["math.Float64bits", "math.Float64frombits"], unfollowed := true, recurses := true, apart := false }
def ResidBoundsSaid : Prop := residBoundsRow.holds Try.pinned (OpenSpec.ofChange residBoundsSpec)

/-- ITS FALSE NEIGHBOUR: 'it returns false'. Refute it at one input. -/
def residBoundsWrong : ChangeSpec := { name := "residBounds", fn := fun _ => fun
  | [d1, d2] => { results := [.lit (.bool false)], args := [d1, d2] }
  | _ => none }
def ResidBoundsWrongFalsely : Prop := residBoundsRow.holds Try.pinned (OpenSpec.ofChange residBoundsWrong)

/-- 'straightedgelaw22.ResidRest': WHATEVER THE INPUT: true; the input reads as it did. -/
def residRestSpec : ChangeSpec := { name := "residRest", fn := fun _ => fun
  | [d1, d2, d3] => { results := [.lit (.bool true)], args := [d1, d2, d3] }
  | _ => none }
def residRestRow : OpenClaim := { program := "ytcmggfpcbijcjaa", sum := "2808b129937d0cd66901ade1bc51e5bd202458955c0ba0d05fc90171b902a03d", func := "straightedge/straightedgelaw22.ResidRest", spec := "residRest", inPlace := ["math.Float64bits", "math.Float64frombits"], unfollowed := true, recurses := true, apart := false }
def ResidRestSaid : Prop := residRestRow.holds Try.pinned (OpenSpec.ofChange residRestSpec)

/-- ITS FALSE NEIGHBOUR: 'it returns false'. Refute it at one input. -/
def residRestWrong : ChangeSpec := { name := "residRest", fn := fun _ => fun
  | [d1, d2, d3] => { results := [.lit (.bool false)], args := [d1, d2, d3] }
  | _ => none }
def ResidRestWrongFalsely : Prop := residRestRow.holds Try.pinned (OpenSpec.ofChange residRestWrong)

/-- 'straightedgelaw06.AxesScale': WHATEVER THE INPUT: true; the input reads as it did. -/
def axesScaleSpec : ChangeSpec := { name := "axesScale", fn := fun _ => fun
  | [d1, d2, d3] => { results := [.lit (.bool true)], args := [d1, d2, d3] }
  | _ => none }
def axesScaleRow : OpenClaim := { program := "ytcmggfpcbijcjaa", sum := "2808b129937d0cd66901ade1bc51e5bd202458955c0ba0d05fc90171b902a03d", func := "straightedge/straightedgelaw06.AxesScale", spec := "axesScale", inPlace := ["math.Float64bits", "math.Float64frombits"], unfollowed := true, recurses := true, apart := false }
def AxesScaleSaid : Prop := axesScaleRow.holds Try.pinned (OpenSpec.ofChange axesScaleSpec)

/-- ITS FALSE NEIGHBOUR: 'it returns false'. Refute it at one input. -/
def axesScaleWrong : ChangeSpec := { name := "axesScale", fn := fun _ => fun
  | [d1, d2, d3] => { results := [.lit (.bool false)], args := [d1, d2, d3] }
  | _ => none }
def AxesScaleWrongFalsely : Prop := axesScaleRow.holds Try.pinned (OpenSpec.ofChange axesScaleWrong)

/-- 'straightedgelaw15.EquilFactors': WHATEVER THE INPUT: true; the input reads as it did. -/
def equilFactorsSpec : ChangeSpec := { name := "equilFactors", fn := fun _ => fun
  | [d] => { results := [.lit (.bool true)], args := [d] }
  | _ => none }
def equilFactorsRow : OpenClaim := { program := "ytcmggfpcbijcjaa", sum := "2808b129937d0cd66901ade1bc51e5bd202458955c0ba0d05fc90171b902a03d", func := "straightedge/straightedgelaw15.EquilFactors", spec := "equilFactors", inPlace := ["math.Float64bits", "math.Float64frombits"], unfollowed := true, recurses := true, apart := false }
def EquilFactorsSaid : Prop := equilFactorsRow.holds Try.pinned (OpenSpec.ofChange equilFactorsSpec)

/-- ITS FALSE NEIGHBOUR: 'it returns false'. Refute it at one input. -/
def equilFactorsWrong : ChangeSpec := { name := "equilFactors", fn := fun _ => fun
  | [d] => { results := [.lit (.bool false)], args := [d] }
  | _ => none }
def EquilFactorsWrongFalsely : Prop := equilFactorsRow.holds Try.pinned (OpenSpec.ofChange equilFactorsWrong)

/-- 'straightedgelaw22.ResidTells': WHATEVER THE INPUT: true; the input reads as it did. -/
def residTellsSpec : ChangeSpec := { name := "residTells", fn := fun _ => fun
  | [d1, d2, d3] => { results := [.lit (.bool true)], args := [d1, d2, d3] }
  | _ => none }
def residTellsRow : OpenClaim := { program := "ytcmggfpcbijcjaa", sum := "2808b129937d0cd66901ade1bc51e5bd202458955c0ba0d05fc90171b902a03d", func := "straightedge/straightedgelaw22.ResidTells", spec := "residTells", inPlace := ["math.Float64bits", "math.Float64frombits"], unfollowed := true, recurses := true, apart := false }
def ResidTellsSaid : Prop := residTellsRow.holds Try.pinned (OpenSpec.ofChange residTellsSpec)

/-- ITS FALSE NEIGHBOUR: 'it returns false'. Refute it at one input. -/
def residTellsWrong : ChangeSpec := { name := "residTells", fn := fun _ => fun
  | [d1, d2, d3] => { results := [.lit (.bool false)], args := [d1, d2, d3] }
  | _ => none }
def ResidTellsWrongFalsely : Prop := residTellsRow.holds Try.pinned (OpenSpec.ofChange residTellsWrong)

/-- 'straightedgelaw22.ResidBackward': WHATEVER THE INPUT: true; the input reads as it did. -/
def residBackwardSpec : ChangeSpec := { name := "residBackward", fn := fun _ => fun
  | [d1, d2, d3] => { results := [.lit (.bool true)], args := [d1, d2, d3] }
  | _ => none }
def residBackwardRow : OpenClaim := { program := "ytcmggfpcbijcjaa", sum := "2808b129937d0cd66901ade1bc51e5bd202458955c0ba0d05fc90171b902a03d", func := "straightedge/straightedgelaw22.ResidBackward", spec := "residBackward", inPlace := ["math.Float64bits", "math.Float64frombits"], unfollowed := true, recurses := true, apart := false }
def ResidBackwardSaid : Prop := residBackwardRow.holds Try.pinned (OpenSpec.ofChange residBackwardSpec)

/-- ITS FALSE NEIGHBOUR: 'it returns false'. Refute it at one input. -/
def residBackwardWrong : ChangeSpec := { name := "residBackward", fn := fun _ => fun
  | [d1, d2, d3] => { results := [.lit (.bool false)], args := [d1, d2, d3] }
  | _ => none }
def ResidBackwardWrongFalsely : Prop := residBackwardRow.holds Try.pinned (OpenSpec.ofChange residBackwardWrong)

/-- 'straightedgelaw15.EquilLike': WHATEVER THE INPUT: true; the input reads as it did. -/
def equilLikeSpec : ChangeSpec := { name := "equilLike", fn := fun _ => fun
  | [d] => { results := [.lit (.bool true)], args := [d] }
  | _ => none }
def equilLikeRow : OpenClaim := { program := "ytcmggfpcbijcjaa", sum := "2808b129937d0cd66901ade1bc51e5bd202458955c0ba0d05fc90171b902a03d", func := "straightedge/straightedgelaw15.EquilLike", spec := "equilLike", inPlace := ["math.Float64bits", "math.Float64frombits"], unfollowed := true, recurses := true, apart := false }
def EquilLikeSaid : Prop := equilLikeRow.holds Try.pinned (OpenSpec.ofChange equilLikeSpec)

/-- ITS FALSE NEIGHBOUR: 'it returns false'. Refute it at one input. -/
def equilLikeWrong : ChangeSpec := { name := "equilLike", fn := fun _ => fun
  | [d] => { results := [.lit (.bool false)], args := [d] }
  | _ => none }
def EquilLikeWrongFalsely : Prop := equilLikeRow.holds Try.pinned (OpenSpec.ofChange equilLikeWrong)

/-- 'straightedgelaw15.EquilScales': WHATEVER THE INPUT: true; the input reads as it did. -/
def equilScalesSpec : ChangeSpec := { name := "equilScales", fn := fun _ => fun
  | [d1, d2, d3] => { results := [.lit (.bool true)], args := [d1, d2, d3] }
  | _ => none }
def equilScalesRow : OpenClaim := { program := "ytcmggfpcbijcjaa", sum := "2808b129937d0cd66901ade1bc51e5bd202458955c0ba0d05fc90171b902a03d", func := "straightedge/straightedgelaw15.EquilScales", spec := "equilScales", inPlace := ["math.Float64bits", "math.Float64frombits"], unfollowed := true, recurses := true, apart := false }
def EquilScalesSaid : Prop := equilScalesRow.holds Try.pinned (OpenSpec.ofChange equilScalesSpec)

/-- ITS FALSE NEIGHBOUR: 'it returns false'. Refute it at one input. -/
def equilScalesWrong : ChangeSpec := { name := "equilScales", fn := fun _ => fun
  | [d1, d2, d3] => { results := [.lit (.bool false)], args := [d1, d2, d3] }
  | _ => none }
def EquilScalesWrongFalsely : Prop := equilScalesRow.holds Try.pinned (OpenSpec.ofChange equilScalesWrong)

/-- 'straightedgelaw20.LacnBelow': WHATEVER THE INPUT: true; the input reads as it did. -/
def lacnBelowSpec : ChangeSpec := { name := "lacnBelow", fn := fun _ => fun
  | [d1, d2] => { results := [.lit (.bool true)], args := [d1, d2] }
  | _ => none }
def lacnBelowRow : OpenClaim := { program := "ytcmggfpcbijcjaa", sum := "2808b129937d0cd66901ade1bc51e5bd202458955c0ba0d05fc90171b902a03d", func := "straightedge/straightedgelaw20.LacnBelow", spec := "lacnBelow", inPlace := ["math.Float64bits", "math.Float64frombits"], unfollowed := true, recurses := true, apart := false }
def LacnBelowSaid : Prop := lacnBelowRow.holds Try.pinned (OpenSpec.ofChange lacnBelowSpec)

/-- ITS FALSE NEIGHBOUR: 'it returns false'. Refute it at one input. -/
def lacnBelowWrong : ChangeSpec := { name := "lacnBelow", fn := fun _ => fun
  | [d1, d2] => { results := [.lit (.bool false)], args := [d1, d2] }
  | _ => none }
def LacnBelowWrongFalsely : Prop := lacnBelowRow.holds Try.pinned (OpenSpec.ofChange lacnBelowWrong)

/- THE SECOND FORM. 'bulk': how many values and letters a reading holds, each counted each time it is reached (what is shared counts as often as it is met; a slice's spare places count too). A statement '..UptoSaid' is the law's where the arguments, and the package variables that the reading takes, are together of bulk at most 1048576: NARROWER than '..Said'. Prove '..Said' where nothing that the law and all that it calls make is longer than what came in: it says more and counts as full. Else prove '..UptoSaid'. A law counts once. -/
mutual
def uptoBulk {H : Type} : DataW H → Nat
  | .lit (.string bytes) => bytes.length + 1
  | .lit _ => 1
  | .nil => 1
  | .ptr d => uptoBulk d + 1
  | .slice elems spare => uptoBulkAll elems + uptoBulkAll spare + 1
  | .agg parts => uptoBulkAll parts + 1
  | .iface _ d => uptoBulk d + 1
  | .map entries => uptoBulkEntries entries + 1
  | .held _ => 1
def uptoBulkAll {H : Type} : List (DataW H) → Nat
  | [] => 0
  | d :: r => uptoBulk d + uptoBulkAll r
def uptoBulkEntries {H : Type} : List (Lit × DataW H) → Nat
  | [] => 0
  | x :: r => uptoBulkEntry x + uptoBulkEntries r
def uptoBulkEntry {H : Type} : Lit × DataW H → Nat
  | (.string bytes, d) => bytes.length + uptoBulk d + 1
  | (_, d) => uptoBulk d + 1
 end
def uptoSmall : (H : Type) → List (DataW H) → Bool := fun _ ds => decide (uptoBulkAll ds ≤ 1048576)
def OpenSpec.upto (s : _root_.Go.ChangeSpec) : _root_.Go.OpenSpec := { _root_.Go.OpenSpec.ofChange s with cond := some uptoSmall }

/-- 'straightedgelaw06.AxesClose', WHERE WHAT IT READS IS OF BULK AT MOST 1048576: true; the input reads as it did. -/
def axesCloseUptoRow : OpenClaim := { program := "ytcmggfpcbijcjaa", sum := "2808b129937d0cd66901ade1bc51e5bd202458955c0ba0d05fc90171b902a03d", func := "straightedge/straightedgelaw06.AxesClose", spec := "axesClose", inPlace := ["math.Float64bits"], unfollowed := true, recurses := true, apart := false, narrowed := true }
def AxesCloseUptoSaid : Prop := axesCloseUptoRow.holds Try.pinned (OpenSpec.upto axesCloseSpec)

/-- 'straightedgelaw05.SumsLists', WHERE WHAT IT READS IS OF BULK AT MOST 1048576: true; the input reads as it did. -/
def sumsListsUptoRow : OpenClaim := { program := "ytcmggfpcbijcjaa", sum := "2808b129937d0cd66901ade1bc51e5bd202458955c0ba0d05fc90171b902a03d", func := "straightedge/straightedgelaw05.SumsLists", spec := "sumsLists", inPlace := ["math.Float64bits", "math.Float64frombits"], apart := false, narrowed := true }
def SumsListsUptoSaid : Prop := sumsListsUptoRow.holds Try.pinned (OpenSpec.upto sumsListsSpec)

/-- 'straightedgelaw04.MoveRows', WHERE WHAT IT READS IS OF BULK AT MOST 1048576: true; the input reads as it did. -/
def moveRowsUptoRow : OpenClaim := { program := "ytcmggfpcbijcjaa", sum := "2808b129937d0cd66901ade1bc51e5bd202458955c0ba0d05fc90171b902a03d", func := "straightedge/straightedgelaw04.MoveRows", spec := "moveRows", inPlace := ["math.Float64bits"], apart := false, narrowed := true }
def MoveRowsUptoSaid : Prop := moveRowsUptoRow.holds Try.pinned (OpenSpec.upto moveRowsSpec)

/-- 'straightedgelaw08.GerTells', WHERE WHAT IT READS IS OF BULK AT MOST 1048576: true; the input reads as it did. -/
def gerTellsUptoRow : OpenClaim := { program := "ytcmggfpcbijcjaa", sum := "2808b129937d0cd66901ade1bc51e5bd202458955c0ba0d05fc90171b902a03d", func := "straightedge/straightedgelaw08.GerTells", spec := "gerTells", inPlace := ["math.Float64bits"], unfollowed := true, recurses := true, apart := false, narrowed := true }
def GerTellsUptoSaid : Prop := gerTellsUptoRow.holds Try.pinned (OpenSpec.upto gerTellsSpec)

/-- 'straightedgelaw04.MoveVectors', WHERE WHAT IT READS IS OF BULK AT MOST 1048576: true; the input reads as it did. -/
def moveVectorsUptoRow : OpenClaim := { program := "ytcmggfpcbijcjaa", sum := "2808b129937d0cd66901ade1bc51e5bd202458955c0ba0d05fc90171b902a03d", func := "straightedge/straightedgelaw04.MoveVectors", spec := "moveVectors", inPlace := ["math.Float64bits"], apart := false, narrowed := true }
def MoveVectorsUptoSaid : Prop := moveVectorsUptoRow.holds Try.pinned (OpenSpec.upto moveVectorsSpec)

/-- 'straightedgelaw07.GemvClose', WHERE WHAT IT READS IS OF BULK AT MOST 1048576: true; the input reads as it did. -/
def gemvCloseUptoRow : OpenClaim := { program := "ytcmggfpcbijcjaa", sum := "2808b129937d0cd66901ade1bc51e5bd202458955c0ba0d05fc90171b902a03d", func := "straightedge/straightedgelaw07.GemvClose", spec := "gemvClose", inPlace := ["math.Float64bits", "math.Float64frombits"], unfollowed := true, recurses := true, apart := false, narrowed := true }
def GemvCloseUptoSaid : Prop := gemvCloseUptoRow.holds Try.pinned (OpenSpec.upto gemvCloseSpec)

/-- 'straightedgelaw11.GemmTells', WHERE WHAT IT READS IS OF BULK AT MOST 1048576: true; the input reads as it did. -/
def gemmTellsUptoRow : OpenClaim := { program := "ytcmggfpcbijcjaa", sum := "2808b129937d0cd66901ade1bc51e5bd202458955c0ba0d05fc90171b902a03d", func := "straightedge/straightedgelaw11.GemmTells", spec := "gemmTells", inPlace := ["math.Float64bits"], unfollowed := true, recurses := true, apart := false, narrowed := true }
def GemmTellsUptoSaid : Prop := gemmTellsUptoRow.holds Try.pinned (OpenSpec.upto gemmTellsSpec)

/-- 'straightedgelaw09.TrsvSolves', WHERE WHAT IT READS IS OF BULK AT MOST 1048576: true; the input reads as it did. -/
def trsvSolvesUptoRow : OpenClaim := { program := "ytcmggfpcbijcjaa", sum := "2808b129937d0cd66901ade1bc51e5bd202458955c0ba0d05fc90171b902a03d", func := "straightedge/straightedgelaw09.TrsvSolves", spec := "trsvSolves", inPlace := ["math.Float64bits"], apart := false, narrowed := true }
def TrsvSolvesUptoSaid : Prop := trsvSolvesUptoRow.holds Try.pinned (OpenSpec.upto trsvSolvesSpec)

/-- 'straightedgelaw09.TrsvBackward', WHERE WHAT IT READS IS OF BULK AT MOST 1048576: true; the input reads as it did. -/
def trsvBackwardUptoRow : OpenClaim := { program := "ytcmggfpcbijcjaa", sum := "2808b129937d0cd66901ade1bc51e5bd202458955c0ba0d05fc90171b902a03d", func := "straightedge/straightedgelaw09.TrsvBackward", spec := "trsvBackward", inPlace := ["math.Float64bits"], apart := false, narrowed := true }
def TrsvBackwardUptoSaid : Prop := trsvBackwardUptoRow.holds Try.pinned (OpenSpec.upto trsvBackwardSpec)

/-- 'straightedgelaw07.GemvTurns', WHERE WHAT IT READS IS OF BULK AT MOST 1048576: true; the input reads as it did. -/
def gemvTurnsUptoRow : OpenClaim := { program := "ytcmggfpcbijcjaa", sum := "2808b129937d0cd66901ade1bc51e5bd202458955c0ba0d05fc90171b902a03d", func := "straightedge/straightedgelaw07.GemvTurns", spec := "gemvTurns", inPlace := ["math.Float64bits", "math.Float64frombits"], unfollowed := true, recurses := true, apart := false, narrowed := true }
def GemvTurnsUptoSaid : Prop := gemvTurnsUptoRow.holds Try.pinned (OpenSpec.upto gemvTurnsSpec)

/-- 'straightedgelaw06.AxesBack', WHERE WHAT IT READS IS OF BULK AT MOST 1048576: true; the input reads as it did. -/
def axesBackUptoRow : OpenClaim := { program := "ytcmggfpcbijcjaa", sum := "2808b129937d0cd66901ade1bc51e5bd202458955c0ba0d05fc90171b902a03d", func := "straightedge/straightedgelaw06.AxesBack", spec := "axesBack", inPlace := ["math.Float64bits", "math.Float64frombits"], unfollowed := true, recurses := true, apart := false, narrowed := true }
def AxesBackUptoSaid : Prop := axesBackUptoRow.holds Try.pinned (OpenSpec.upto axesBackSpec)

/-- 'straightedgelaw11.GemmWhole', WHERE WHAT IT READS IS OF BULK AT MOST 1048576: true; the input reads as it did. -/
def gemmWholeUptoRow : OpenClaim := { program := "ytcmggfpcbijcjaa", sum := "2808b129937d0cd66901ade1bc51e5bd202458955c0ba0d05fc90171b902a03d", func := "straightedge/straightedgelaw11.GemmWhole", spec := "gemmWhole", inPlace := ["math.Float64bits"], unfollowed := true, recurses := true, apart := false, narrowed := true }
def GemmWholeUptoSaid : Prop := gemmWholeUptoRow.holds Try.pinned (OpenSpec.upto gemmWholeSpec)

/-- 'straightedgelaw22.ResidBounds', WHERE WHAT IT READS IS OF BULK AT MOST 1048576: true; the input reads as it did. -/
def residBoundsUptoRow : OpenClaim := { program := "ytcmggfpcbijcjaa", sum := "2808b129937d0cd66901ade1bc51e5bd202458955c0ba0d05fc90171b902a03d", func := "straightedge/straightedgelaw22.ResidBounds", spec := "residBounds", inPlace := ["math.Float64bits", "math.Float64frombits"], unfollowed := true, recurses := true, apart := false, narrowed := true }
def ResidBoundsUptoSaid : Prop := residBoundsUptoRow.holds Try.pinned (OpenSpec.upto residBoundsSpec)

/-- 'straightedgelaw22.ResidRest', WHERE WHAT IT READS IS OF BULK AT MOST 1048576: true; the input reads as it did. -/
def residRestUptoRow : OpenClaim := { program := "ytcmggfpcbijcjaa", sum := "2808b129937d0cd66901ade1bc51e5bd202458955c0ba0d05fc90171b902a03d", func := "straightedge/straightedgelaw22.ResidRest", spec := "residRest", inPlace := ["math.Float64bits", "math.Float64frombits"], unfollowed := true, recurses := true, apart := false, narrowed := true }
def ResidRestUptoSaid : Prop := residRestUptoRow.holds Try.pinned (OpenSpec.upto residRestSpec)

/-- 'straightedgelaw06.AxesScale', WHERE WHAT IT READS IS OF BULK AT MOST 1048576: true; the input reads as it did. -/
def axesScaleUptoRow : OpenClaim := { program := "ytcmggfpcbijcjaa", sum := "2808b129937d0cd66901ade1bc51e5bd202458955c0ba0d05fc90171b902a03d", func := "straightedge/straightedgelaw06.AxesScale", spec := "axesScale", inPlace := ["math.Float64bits", "math.Float64frombits"], unfollowed := true, recurses := true, apart := false, narrowed := true }
def AxesScaleUptoSaid : Prop := axesScaleUptoRow.holds Try.pinned (OpenSpec.upto axesScaleSpec)

/-- 'straightedgelaw15.EquilFactors', WHERE WHAT IT READS IS OF BULK AT MOST 1048576: true; the input reads as it did. -/
def equilFactorsUptoRow : OpenClaim := { program := "ytcmggfpcbijcjaa", sum := "2808b129937d0cd66901ade1bc51e5bd202458955c0ba0d05fc90171b902a03d", func := "straightedge/straightedgelaw15.EquilFactors", spec := "equilFactors", inPlace := ["math.Float64bits", "math.Float64frombits"], unfollowed := true, recurses := true, apart := false, narrowed := true }
def EquilFactorsUptoSaid : Prop := equilFactorsUptoRow.holds Try.pinned (OpenSpec.upto equilFactorsSpec)

/-- 'straightedgelaw22.ResidTells', WHERE WHAT IT READS IS OF BULK AT MOST 1048576: true; the input reads as it did. -/
def residTellsUptoRow : OpenClaim := { program := "ytcmggfpcbijcjaa", sum := "2808b129937d0cd66901ade1bc51e5bd202458955c0ba0d05fc90171b902a03d", func := "straightedge/straightedgelaw22.ResidTells", spec := "residTells", inPlace := ["math.Float64bits", "math.Float64frombits"], unfollowed := true, recurses := true, apart := false, narrowed := true }
def ResidTellsUptoSaid : Prop := residTellsUptoRow.holds Try.pinned (OpenSpec.upto residTellsSpec)

/-- 'straightedgelaw22.ResidBackward', WHERE WHAT IT READS IS OF BULK AT MOST 1048576: true; the input reads as it did. -/
def residBackwardUptoRow : OpenClaim := { program := "ytcmggfpcbijcjaa", sum := "2808b129937d0cd66901ade1bc51e5bd202458955c0ba0d05fc90171b902a03d", func := "straightedge/straightedgelaw22.ResidBackward", spec := "residBackward", inPlace := ["math.Float64bits", "math.Float64frombits"], unfollowed := true, recurses := true, apart := false, narrowed := true }
def ResidBackwardUptoSaid : Prop := residBackwardUptoRow.holds Try.pinned (OpenSpec.upto residBackwardSpec)

/-- 'straightedgelaw15.EquilLike', WHERE WHAT IT READS IS OF BULK AT MOST 1048576: true; the input reads as it did. -/
def equilLikeUptoRow : OpenClaim := { program := "ytcmggfpcbijcjaa", sum := "2808b129937d0cd66901ade1bc51e5bd202458955c0ba0d05fc90171b902a03d", func := "straightedge/straightedgelaw15.EquilLike", spec := "equilLike", inPlace := ["math.Float64bits", "math.Float64frombits"], unfollowed := true, recurses := true, apart := false, narrowed := true }
def EquilLikeUptoSaid : Prop := equilLikeUptoRow.holds Try.pinned (OpenSpec.upto equilLikeSpec)

/-- 'straightedgelaw15.EquilScales', WHERE WHAT IT READS IS OF BULK AT MOST 1048576: true; the input reads as it did. -/
def equilScalesUptoRow : OpenClaim := { program := "ytcmggfpcbijcjaa", sum := "2808b129937d0cd66901ade1bc51e5bd202458955c0ba0d05fc90171b902a03d", func := "straightedge/straightedgelaw15.EquilScales", spec := "equilScales", inPlace := ["math.Float64bits", "math.Float64frombits"], unfollowed := true, recurses := true, apart := false, narrowed := true }
def EquilScalesUptoSaid : Prop := equilScalesUptoRow.holds Try.pinned (OpenSpec.upto equilScalesSpec)

/-- 'straightedgelaw20.LacnBelow', WHERE WHAT IT READS IS OF BULK AT MOST 1048576: true; the input reads as it did. -/
def lacnBelowUptoRow : OpenClaim := { program := "ytcmggfpcbijcjaa", sum := "2808b129937d0cd66901ade1bc51e5bd202458955c0ba0d05fc90171b902a03d", func := "straightedge/straightedgelaw20.LacnBelow", spec := "lacnBelow", inPlace := ["math.Float64bits", "math.Float64frombits"], unfollowed := true, recurses := true, apart := false, narrowed := true }
def LacnBelowUptoSaid : Prop := lacnBelowUptoRow.holds Try.pinned (OpenSpec.upto lacnBelowSpec)

end Rows
end Go.Proofs.Ytcmggfpcbijcjaa
