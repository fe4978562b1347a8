/-
  NARROWER THAN 'FOR EVERY INPUT', by the rows' own cells (each row's printed sentence says how): ColourFive: laid · ColourProper: laid · ColourPeels: laid · ColourGreedy: laid · ColourThin: laid · ColourLeast: laid · ColourOwn: laid · EmbedSides: laid · EmbedFrom: laid · EmbedOwn: laid · EmbedAgrees: laid · GenShapes: laid · OuterNames: laid · OuterFinds: laid · OuterValid: laid · OuterShows: laid · OuterParts: laid · OuterMemory: laid · OuterApex: laid · GridSizes: laid · GridFull: laid.
  DERIVED. THE GIVEN ROWS OF THIS SEAT. 21 by the template 'for every input the law returns true; each argument reads behind the call as it read before'; 0 by the template 'total and deterministic' (their statements: YtjfppkhaiooloaaGreatDoorTotals.lean).
  GIVEN WITH THE SEED: the statements are not yours to turn. If you find one false, say at which input.
  Laid BY PROGRAM, IN A SANDBOX (cutbox-rows.mjs): the forced cells as the released guide's own fill.sh prints them over the translation 887f12f8e8be4533… (all of the seat's roots in one cut). By AI agents, Wed Nov 11 2026. No macro, syntax, notation, axiom, sorry.
-/
import Derived.Test.YtjfppkhaiooloaaGreatDoorChecked
import GoSem.Claim
import GoSem.ClaimJoined
import GoSem.ClaimMapViews
import Derived.JoinedTies
import Derived.KernelRfl
namespace Go.Proofs.YtjfppkhaiooloaaGreatDoor
/- THE CELL 'sum', in the pinned program and in every row, IS THE sha256 OF THE DUMP (.gsa) THAT YtjfppkhaiooloaaGreatDoorProg.lean LOADS. Nothing in Lean hashes anything: it is a label: what it is worth is what the hold of that sum in a sandbox is worth. -/
noncomputable def Tryz.pinned : Pinned := { name := "ytjfppkhaiooloaagreatdoor", sum := "887f12f8e8be45330c44933d85aabc03fb92559082b29f2cf1df7f213be557c6", checked := Tryz.checked }
namespace Rows
def none {H : Type} : Left H := { results := [], args := [] }

/- WHAT THE LISTED PACKAGE-LEVEL VARIABLES READ AS WHEN THE CALL BEGINS. Each datum BY PROGRAM (the guide's laid-datum.mjs) off the statement by which the dump's own 'gosem.cut.vars' lays the variable. In a bare row this is a premise. The card (YtjfppkhaiooloaaGreatDoorCards.lean) ties it to the program's text. -/
def laid_tangram_lr_empty {H : Type} : DataW H := .agg [.lit (.int .i64 (-1)), .lit (.int .i64 (-1))]

/-- 'tangramlaw27.ColourFive': WHATEVER THE INPUT: true; the input reads as it did. -/
def colourFiveSpec : ChangeSpec := { name := "colourFive", fn := fun _ => fun
  | [d] => { results := [.lit (.bool true)], args := [d] }
  | _ => none }
def colourFiveRow : OpenClaim := { program := "ytjfppkhaiooloaagreatdoor", sum := "887f12f8e8be45330c44933d85aabc03fb92559082b29f2cf1df7f213be557c6", func := "tangram/tangramlaw27.ColourFive", spec := "colourFive", unfollowed := true, recurses := true, named := ["tangram/lr.empty"], plainKeys := false, apart := false, laid := [("tangram/lr.empty", laid_tangram_lr_empty)] }
def ColourFiveSaid : Prop := colourFiveRow.holds Tryz.pinned (OpenSpec.ofChange colourFiveSpec)

/-- ITS FALSE NEIGHBOUR: 'it returns false'. Refute it at one input. -/
def colourFiveWrong : ChangeSpec := { name := "colourFive", fn := fun _ => fun
  | [d] => { results := [.lit (.bool false)], args := [d] }
  | _ => none }
def ColourFiveWrongFalsely : Prop := colourFiveRow.holds Tryz.pinned (OpenSpec.ofChange colourFiveWrong)

/-- 'tangramlaw27.ColourProper': WHATEVER THE INPUT: true; the input reads as it did. -/
def colourProperSpec : ChangeSpec := { name := "colourProper", fn := fun _ => fun
  | [d1, d2] => { results := [.lit (.bool true)], args := [d1, d2] }
  | _ => none }
def colourProperRow : OpenClaim := { program := "ytjfppkhaiooloaagreatdoor", sum := "887f12f8e8be45330c44933d85aabc03fb92559082b29f2cf1df7f213be557c6", func := "tangram/tangramlaw27.ColourProper", spec := "colourProper", unfollowed := true, recurses := true, named := ["tangram/lr.empty"], plainKeys := false, apart := false, laid := [("tangram/lr.empty", laid_tangram_lr_empty)] }
def ColourProperSaid : Prop := colourProperRow.holds Tryz.pinned (OpenSpec.ofChange colourProperSpec)

/-- ITS FALSE NEIGHBOUR: 'it returns false'. Refute it at one input. -/
def colourProperWrong : ChangeSpec := { name := "colourProper", fn := fun _ => fun
  | [d1, d2] => { results := [.lit (.bool false)], args := [d1, d2] }
  | _ => none }
def ColourProperWrongFalsely : Prop := colourProperRow.holds Tryz.pinned (OpenSpec.ofChange colourProperWrong)

/-- 'tangramlaw27.ColourPeels': WHATEVER THE INPUT: true; the input reads as it did. -/
def colourPeelsSpec : ChangeSpec := { name := "colourPeels", fn := fun _ => fun
  | [d] => { results := [.lit (.bool true)], args := [d] }
  | _ => none }
def colourPeelsRow : OpenClaim := { program := "ytjfppkhaiooloaagreatdoor", sum := "887f12f8e8be45330c44933d85aabc03fb92559082b29f2cf1df7f213be557c6", func := "tangram/tangramlaw27.ColourPeels", spec := "colourPeels", unfollowed := true, recurses := true, named := ["tangram/lr.empty"], plainKeys := false, apart := false, laid := [("tangram/lr.empty", laid_tangram_lr_empty)] }
def ColourPeelsSaid : Prop := colourPeelsRow.holds Tryz.pinned (OpenSpec.ofChange colourPeelsSpec)

/-- ITS FALSE NEIGHBOUR: 'it returns false'. Refute it at one input. -/
def colourPeelsWrong : ChangeSpec := { name := "colourPeels", fn := fun _ => fun
  | [d] => { results := [.lit (.bool false)], args := [d] }
  | _ => none }
def ColourPeelsWrongFalsely : Prop := colourPeelsRow.holds Tryz.pinned (OpenSpec.ofChange colourPeelsWrong)

/-- 'tangramlaw27.ColourGreedy': WHATEVER THE INPUT: true; the input reads as it did. -/
def colourGreedySpec : ChangeSpec := { name := "colourGreedy", fn := fun _ => fun
  | [d1, d2] => { results := [.lit (.bool true)], args := [d1, d2] }
  | _ => none }
def colourGreedyRow : OpenClaim := { program := "ytjfppkhaiooloaagreatdoor", sum := "887f12f8e8be45330c44933d85aabc03fb92559082b29f2cf1df7f213be557c6", func := "tangram/tangramlaw27.ColourGreedy", spec := "colourGreedy", unfollowed := true, recurses := true, named := ["tangram/lr.empty"], plainKeys := false, apart := false, laid := [("tangram/lr.empty", laid_tangram_lr_empty)] }
def ColourGreedySaid : Prop := colourGreedyRow.holds Tryz.pinned (OpenSpec.ofChange colourGreedySpec)

/-- ITS FALSE NEIGHBOUR: 'it returns false'. Refute it at one input. -/
def colourGreedyWrong : ChangeSpec := { name := "colourGreedy", fn := fun _ => fun
  | [d1, d2] => { results := [.lit (.bool false)], args := [d1, d2] }
  | _ => none }
def ColourGreedyWrongFalsely : Prop := colourGreedyRow.holds Tryz.pinned (OpenSpec.ofChange colourGreedyWrong)

/-- 'tangramlaw27.ColourThin': WHATEVER THE INPUT: true; the input reads as it did. -/
def colourThinSpec : ChangeSpec := { name := "colourThin", fn := fun _ => fun
  | [d] => { results := [.lit (.bool true)], args := [d] }
  | _ => none }
def colourThinRow : OpenClaim := { program := "ytjfppkhaiooloaagreatdoor", sum := "887f12f8e8be45330c44933d85aabc03fb92559082b29f2cf1df7f213be557c6", func := "tangram/tangramlaw27.ColourThin", spec := "colourThin", unfollowed := true, recurses := true, named := ["tangram/lr.empty"], plainKeys := false, apart := false, laid := [("tangram/lr.empty", laid_tangram_lr_empty)] }
def ColourThinSaid : Prop := colourThinRow.holds Tryz.pinned (OpenSpec.ofChange colourThinSpec)

/-- ITS FALSE NEIGHBOUR: 'it returns false'. Refute it at one input. -/
def colourThinWrong : ChangeSpec := { name := "colourThin", fn := fun _ => fun
  | [d] => { results := [.lit (.bool false)], args := [d] }
  | _ => none }
def ColourThinWrongFalsely : Prop := colourThinRow.holds Tryz.pinned (OpenSpec.ofChange colourThinWrong)

/-- 'tangramlaw27.ColourLeast': WHATEVER THE INPUT: true; the input reads as it did. -/
def colourLeastSpec : ChangeSpec := { name := "colourLeast", fn := fun _ => fun
  | [d1, d2] => { results := [.lit (.bool true)], args := [d1, d2] }
  | _ => none }
def colourLeastRow : OpenClaim := { program := "ytjfppkhaiooloaagreatdoor", sum := "887f12f8e8be45330c44933d85aabc03fb92559082b29f2cf1df7f213be557c6", func := "tangram/tangramlaw27.ColourLeast", spec := "colourLeast", unfollowed := true, recurses := true, named := ["tangram/lr.empty"], plainKeys := false, apart := false, laid := [("tangram/lr.empty", laid_tangram_lr_empty)] }
def ColourLeastSaid : Prop := colourLeastRow.holds Tryz.pinned (OpenSpec.ofChange colourLeastSpec)

/-- ITS FALSE NEIGHBOUR: 'it returns false'. Refute it at one input. -/
def colourLeastWrong : ChangeSpec := { name := "colourLeast", fn := fun _ => fun
  | [d1, d2] => { results := [.lit (.bool false)], args := [d1, d2] }
  | _ => none }
def ColourLeastWrongFalsely : Prop := colourLeastRow.holds Tryz.pinned (OpenSpec.ofChange colourLeastWrong)

/-- 'tangramlaw27.ColourOwn': WHATEVER THE INPUT: true; the input reads as it did. -/
def colourOwnSpec : ChangeSpec := { name := "colourOwn", fn := fun _ => fun
  | [d1, d2] => { results := [.lit (.bool true)], args := [d1, d2] }
  | _ => none }
def colourOwnRow : OpenClaim := { program := "ytjfppkhaiooloaagreatdoor", sum := "887f12f8e8be45330c44933d85aabc03fb92559082b29f2cf1df7f213be557c6", func := "tangram/tangramlaw27.ColourOwn", spec := "colourOwn", unfollowed := true, recurses := true, named := ["tangram/lr.empty"], plainKeys := false, apart := false, laid := [("tangram/lr.empty", laid_tangram_lr_empty)] }
def ColourOwnSaid : Prop := colourOwnRow.holds Tryz.pinned (OpenSpec.ofChange colourOwnSpec)

/-- ITS FALSE NEIGHBOUR: 'it returns false'. Refute it at one input. -/
def colourOwnWrong : ChangeSpec := { name := "colourOwn", fn := fun _ => fun
  | [d1, d2] => { results := [.lit (.bool false)], args := [d1, d2] }
  | _ => none }
def ColourOwnWrongFalsely : Prop := colourOwnRow.holds Tryz.pinned (OpenSpec.ofChange colourOwnWrong)

/-- 'tangramlaw13.EmbedSides': WHATEVER THE INPUT: true; the input reads as it did. -/
def embedSidesSpec : ChangeSpec := { name := "embedSides", fn := fun _ => fun
  | [d1, d2] => { results := [.lit (.bool true)], args := [d1, d2] }
  | _ => none }
def embedSidesRow : OpenClaim := { program := "ytjfppkhaiooloaagreatdoor", sum := "887f12f8e8be45330c44933d85aabc03fb92559082b29f2cf1df7f213be557c6", func := "tangram/tangramlaw13.EmbedSides", spec := "embedSides", unfollowed := true, recurses := true, named := ["tangram/lr.empty"], plainKeys := false, apart := false, laid := [("tangram/lr.empty", laid_tangram_lr_empty)] }
def EmbedSidesSaid : Prop := embedSidesRow.holds Tryz.pinned (OpenSpec.ofChange embedSidesSpec)

/-- ITS FALSE NEIGHBOUR: 'it returns false'. Refute it at one input. -/
def embedSidesWrong : ChangeSpec := { name := "embedSides", fn := fun _ => fun
  | [d1, d2] => { results := [.lit (.bool false)], args := [d1, d2] }
  | _ => none }
def EmbedSidesWrongFalsely : Prop := embedSidesRow.holds Tryz.pinned (OpenSpec.ofChange embedSidesWrong)

/-- 'tangramlaw13.EmbedFrom': WHATEVER THE INPUT: true; the input reads as it did. -/
def embedFromSpec : ChangeSpec := { name := "embedFrom", fn := fun _ => fun
  | [d1, d2] => { results := [.lit (.bool true)], args := [d1, d2] }
  | _ => none }
def embedFromRow : OpenClaim := { program := "ytjfppkhaiooloaagreatdoor", sum := "887f12f8e8be45330c44933d85aabc03fb92559082b29f2cf1df7f213be557c6", func := "tangram/tangramlaw13.EmbedFrom", spec := "embedFrom", unfollowed := true, recurses := true, named := ["tangram/lr.empty"], plainKeys := false, apart := false, laid := [("tangram/lr.empty", laid_tangram_lr_empty)] }
def EmbedFromSaid : Prop := embedFromRow.holds Tryz.pinned (OpenSpec.ofChange embedFromSpec)

/-- ITS FALSE NEIGHBOUR: 'it returns false'. Refute it at one input. -/
def embedFromWrong : ChangeSpec := { name := "embedFrom", fn := fun _ => fun
  | [d1, d2] => { results := [.lit (.bool false)], args := [d1, d2] }
  | _ => none }
def EmbedFromWrongFalsely : Prop := embedFromRow.holds Tryz.pinned (OpenSpec.ofChange embedFromWrong)

/-- 'tangramlaw13.EmbedOwn': WHATEVER THE INPUT: true; the input reads as it did. -/
def embedOwnSpec : ChangeSpec := { name := "embedOwn", fn := fun _ => fun
  | [d1, d2] => { results := [.lit (.bool true)], args := [d1, d2] }
  | _ => none }
def embedOwnRow : OpenClaim := { program := "ytjfppkhaiooloaagreatdoor", sum := "887f12f8e8be45330c44933d85aabc03fb92559082b29f2cf1df7f213be557c6", func := "tangram/tangramlaw13.EmbedOwn", spec := "embedOwn", unfollowed := true, recurses := true, named := ["tangram/lr.empty"], plainKeys := false, apart := false, laid := [("tangram/lr.empty", laid_tangram_lr_empty)] }
def EmbedOwnSaid : Prop := embedOwnRow.holds Tryz.pinned (OpenSpec.ofChange embedOwnSpec)

/-- ITS FALSE NEIGHBOUR: 'it returns false'. Refute it at one input. -/
def embedOwnWrong : ChangeSpec := { name := "embedOwn", fn := fun _ => fun
  | [d1, d2] => { results := [.lit (.bool false)], args := [d1, d2] }
  | _ => none }
def EmbedOwnWrongFalsely : Prop := embedOwnRow.holds Tryz.pinned (OpenSpec.ofChange embedOwnWrong)

/-- 'tangramlaw13.EmbedAgrees': WHATEVER THE INPUT: true; the input reads as it did. -/
def embedAgreesSpec : ChangeSpec := { name := "embedAgrees", fn := fun _ => fun
  | [d] => { results := [.lit (.bool true)], args := [d] }
  | _ => none }
def embedAgreesRow : OpenClaim := { program := "ytjfppkhaiooloaagreatdoor", sum := "887f12f8e8be45330c44933d85aabc03fb92559082b29f2cf1df7f213be557c6", func := "tangram/tangramlaw13.EmbedAgrees", spec := "embedAgrees", unfollowed := true, recurses := true, named := ["tangram/lr.empty"], plainKeys := false, apart := false, laid := [("tangram/lr.empty", laid_tangram_lr_empty)] }
def EmbedAgreesSaid : Prop := embedAgreesRow.holds Tryz.pinned (OpenSpec.ofChange embedAgreesSpec)

/-- ITS FALSE NEIGHBOUR: 'it returns false'. Refute it at one input. -/
def embedAgreesWrong : ChangeSpec := { name := "embedAgrees", fn := fun _ => fun
  | [d] => { results := [.lit (.bool false)], args := [d] }
  | _ => none }
def EmbedAgreesWrongFalsely : Prop := embedAgreesRow.holds Tryz.pinned (OpenSpec.ofChange embedAgreesWrong)

/-- 'tangramlaw20.GenShapes': WHATEVER THE INPUT: true; the input reads as it did. -/
def genShapesSpec : ChangeSpec := { name := "genShapes", fn := fun _ => fun
  | [d1, d2] => { results := [.lit (.bool true)], args := [d1, d2] }
  | _ => none }
def genShapesRow : OpenClaim := { program := "ytjfppkhaiooloaagreatdoor", sum := "887f12f8e8be45330c44933d85aabc03fb92559082b29f2cf1df7f213be557c6", func := "tangram/tangramlaw20.GenShapes", spec := "genShapes", unfollowed := true, recurses := true, named := ["tangram/lr.empty"], plainKeys := false, apart := false, laid := [("tangram/lr.empty", laid_tangram_lr_empty)] }
def GenShapesSaid : Prop := genShapesRow.holds Tryz.pinned (OpenSpec.ofChange genShapesSpec)

/-- ITS FALSE NEIGHBOUR: 'it returns false'. Refute it at one input. -/
def genShapesWrong : ChangeSpec := { name := "genShapes", fn := fun _ => fun
  | [d1, d2] => { results := [.lit (.bool false)], args := [d1, d2] }
  | _ => none }
def GenShapesWrongFalsely : Prop := genShapesRow.holds Tryz.pinned (OpenSpec.ofChange genShapesWrong)

/-- 'tangramlaw28.OuterNames': WHATEVER THE INPUT: true; the input reads as it did. -/
def outerNamesSpec : ChangeSpec := { name := "outerNames", fn := fun _ => fun
  | [] => { results := [.lit (.bool true)], args := [] }
  | _ => none }
def outerNamesRow : OpenClaim := { program := "ytjfppkhaiooloaagreatdoor", sum := "887f12f8e8be45330c44933d85aabc03fb92559082b29f2cf1df7f213be557c6", func := "tangram/tangramlaw28.OuterNames", spec := "outerNames", unfollowed := true, recurses := true, named := ["tangram/lr.empty"], plainKeys := false, apart := false, laid := [("tangram/lr.empty", laid_tangram_lr_empty)] }
def OuterNamesSaid : Prop := outerNamesRow.holds Tryz.pinned (OpenSpec.ofChange outerNamesSpec)

/-- ITS FALSE NEIGHBOUR: 'it returns false'. Refute it at one input. -/
def outerNamesWrong : ChangeSpec := { name := "outerNames", fn := fun _ => fun
  | [] => { results := [.lit (.bool false)], args := [] }
  | _ => none }
def OuterNamesWrongFalsely : Prop := outerNamesRow.holds Tryz.pinned (OpenSpec.ofChange outerNamesWrong)

/-- 'tangramlaw28.OuterFinds': WHATEVER THE INPUT: true; the input reads as it did. -/
def outerFindsSpec : ChangeSpec := { name := "outerFinds", fn := fun _ => fun
  | [d] => { results := [.lit (.bool true)], args := [d] }
  | _ => none }
def outerFindsRow : OpenClaim := { program := "ytjfppkhaiooloaagreatdoor", sum := "887f12f8e8be45330c44933d85aabc03fb92559082b29f2cf1df7f213be557c6", func := "tangram/tangramlaw28.OuterFinds", spec := "outerFinds", unfollowed := true, recurses := true, named := ["tangram/lr.empty"], plainKeys := false, apart := false, laid := [("tangram/lr.empty", laid_tangram_lr_empty)] }
def OuterFindsSaid : Prop := outerFindsRow.holds Tryz.pinned (OpenSpec.ofChange outerFindsSpec)

/-- ITS FALSE NEIGHBOUR: 'it returns false'. Refute it at one input. -/
def outerFindsWrong : ChangeSpec := { name := "outerFinds", fn := fun _ => fun
  | [d] => { results := [.lit (.bool false)], args := [d] }
  | _ => none }
def OuterFindsWrongFalsely : Prop := outerFindsRow.holds Tryz.pinned (OpenSpec.ofChange outerFindsWrong)

/-- 'tangramlaw28.OuterValid': WHATEVER THE INPUT: true; the input reads as it did. -/
def outerValidSpec : ChangeSpec := { name := "outerValid", fn := fun _ => fun
  | [d1, d2] => { results := [.lit (.bool true)], args := [d1, d2] }
  | _ => none }
def outerValidRow : OpenClaim := { program := "ytjfppkhaiooloaagreatdoor", sum := "887f12f8e8be45330c44933d85aabc03fb92559082b29f2cf1df7f213be557c6", func := "tangram/tangramlaw28.OuterValid", spec := "outerValid", unfollowed := true, recurses := true, named := ["tangram/lr.empty"], plainKeys := false, apart := false, laid := [("tangram/lr.empty", laid_tangram_lr_empty)] }
def OuterValidSaid : Prop := outerValidRow.holds Tryz.pinned (OpenSpec.ofChange outerValidSpec)

/-- ITS FALSE NEIGHBOUR: 'it returns false'. Refute it at one input. -/
def outerValidWrong : ChangeSpec := { name := "outerValid", fn := fun _ => fun
  | [d1, d2] => { results := [.lit (.bool false)], args := [d1, d2] }
  | _ => none }
def OuterValidWrongFalsely : Prop := outerValidRow.holds Tryz.pinned (OpenSpec.ofChange outerValidWrong)

/-- 'tangramlaw28.OuterShows': WHATEVER THE INPUT: true; the input reads as it did. -/
def outerShowsSpec : ChangeSpec := { name := "outerShows", fn := fun _ => fun
  | [d] => { results := [.lit (.bool true)], args := [d] }
  | _ => none }
def outerShowsRow : OpenClaim := { program := "ytjfppkhaiooloaagreatdoor", sum := "887f12f8e8be45330c44933d85aabc03fb92559082b29f2cf1df7f213be557c6", func := "tangram/tangramlaw28.OuterShows", spec := "outerShows", unfollowed := true, recurses := true, named := ["tangram/lr.empty"], plainKeys := false, apart := false, laid := [("tangram/lr.empty", laid_tangram_lr_empty)] }
def OuterShowsSaid : Prop := outerShowsRow.holds Tryz.pinned (OpenSpec.ofChange outerShowsSpec)

/-- ITS FALSE NEIGHBOUR: 'it returns false'. Refute it at one input. -/
def outerShowsWrong : ChangeSpec := { name := "outerShows", fn := fun _ => fun
  | [d] => { results := [.lit (.bool false)], args := [d] }
  | _ => none }
def OuterShowsWrongFalsely : Prop := outerShowsRow.holds Tryz.pinned (OpenSpec.ofChange outerShowsWrong)

/-- 'tangramlaw28.OuterParts': WHATEVER THE INPUT: true; the input reads as it did. -/
def outerPartsSpec : ChangeSpec := { name := "outerParts", fn := fun _ => fun
  | [d1, d2, d3] => { results := [.lit (.bool true)], args := [d1, d2, d3] }
  | _ => none }
def outerPartsRow : OpenClaim := { program := "ytjfppkhaiooloaagreatdoor", sum := "887f12f8e8be45330c44933d85aabc03fb92559082b29f2cf1df7f213be557c6", func := "tangram/tangramlaw28.OuterParts", spec := "outerParts", unfollowed := true, recurses := true, named := ["tangram/lr.empty"], plainKeys := false, apart := false, laid := [("tangram/lr.empty", laid_tangram_lr_empty)] }
def OuterPartsSaid : Prop := outerPartsRow.holds Tryz.pinned (OpenSpec.ofChange outerPartsSpec)

/-- ITS FALSE NEIGHBOUR: 'it returns false'. Refute it at one input. -/
def outerPartsWrong : ChangeSpec := { name := "outerParts", fn := fun _ => fun
  | [d1, d2, d3] => { results := [.lit (.bool false)], args := [d1, d2, d3] }
  | _ => none }
def OuterPartsWrongFalsely : Prop := outerPartsRow.holds Tryz.pinned (OpenSpec.ofChange outerPartsWrong)

/-- 'tangramlaw28.OuterMemory': WHATEVER THE INPUT: true; the input reads as it did. -/
def outerMemorySpec : ChangeSpec := { name := "outerMemory", fn := fun _ => fun
  | [d] => { results := [.lit (.bool true)], args := [d] }
  | _ => none }
def outerMemoryRow : OpenClaim := { program := "ytjfppkhaiooloaagreatdoor", sum := "887f12f8e8be45330c44933d85aabc03fb92559082b29f2cf1df7f213be557c6", func := "tangram/tangramlaw28.OuterMemory", spec := "outerMemory", unfollowed := true, recurses := true, named := ["tangram/lr.empty"], plainKeys := false, apart := false, laid := [("tangram/lr.empty", laid_tangram_lr_empty)] }
def OuterMemorySaid : Prop := outerMemoryRow.holds Tryz.pinned (OpenSpec.ofChange outerMemorySpec)

/-- ITS FALSE NEIGHBOUR: 'it returns false'. Refute it at one input. -/
def outerMemoryWrong : ChangeSpec := { name := "outerMemory", fn := fun _ => fun
  | [d] => { results := [.lit (.bool false)], args := [d] }
  | _ => none }
def OuterMemoryWrongFalsely : Prop := outerMemoryRow.holds Tryz.pinned (OpenSpec.ofChange outerMemoryWrong)

/-- 'tangramlaw28.OuterApex': WHATEVER THE INPUT: true; the input reads as it did. -/
def outerApexSpec : ChangeSpec := { name := "outerApex", fn := fun _ => fun
  | [d] => { results := [.lit (.bool true)], args := [d] }
  | _ => none }
def outerApexRow : OpenClaim := { program := "ytjfppkhaiooloaagreatdoor", sum := "887f12f8e8be45330c44933d85aabc03fb92559082b29f2cf1df7f213be557c6", func := "tangram/tangramlaw28.OuterApex", spec := "outerApex", unfollowed := true, recurses := true, named := ["tangram/lr.empty"], plainKeys := false, apart := false, laid := [("tangram/lr.empty", laid_tangram_lr_empty)] }
def OuterApexSaid : Prop := outerApexRow.holds Tryz.pinned (OpenSpec.ofChange outerApexSpec)

/-- ITS FALSE NEIGHBOUR: 'it returns false'. Refute it at one input. -/
def outerApexWrong : ChangeSpec := { name := "outerApex", fn := fun _ => fun
  | [d] => { results := [.lit (.bool false)], args := [d] }
  | _ => none }
def OuterApexWrongFalsely : Prop := outerApexRow.holds Tryz.pinned (OpenSpec.ofChange outerApexWrong)

/-- 'tangramlaw25.GridSizes': WHATEVER THE INPUT: true; the input reads as it did. -/
def gridSizesSpec : ChangeSpec := { name := "gridSizes", fn := fun _ => fun
  | [d] => { results := [.lit (.bool true)], args := [d] }
  | _ => none }
def gridSizesRow : OpenClaim := { program := "ytjfppkhaiooloaagreatdoor", sum := "887f12f8e8be45330c44933d85aabc03fb92559082b29f2cf1df7f213be557c6", func := "tangram/tangramlaw25.GridSizes", spec := "gridSizes", unfollowed := true, recurses := true, named := ["tangram/lr.empty"], plainKeys := false, apart := false, laid := [("tangram/lr.empty", laid_tangram_lr_empty)] }
def GridSizesSaid : Prop := gridSizesRow.holds Tryz.pinned (OpenSpec.ofChange gridSizesSpec)

/-- ITS FALSE NEIGHBOUR: 'it returns false'. Refute it at one input. -/
def gridSizesWrong : ChangeSpec := { name := "gridSizes", fn := fun _ => fun
  | [d] => { results := [.lit (.bool false)], args := [d] }
  | _ => none }
def GridSizesWrongFalsely : Prop := gridSizesRow.holds Tryz.pinned (OpenSpec.ofChange gridSizesWrong)

/-- 'tangramlaw25.GridFull': WHATEVER THE INPUT: true; the input reads as it did. -/
def gridFullSpec : ChangeSpec := { name := "gridFull", fn := fun _ => fun
  | [d] => { results := [.lit (.bool true)], args := [d] }
  | _ => none }
def gridFullRow : OpenClaim := { program := "ytjfppkhaiooloaagreatdoor", sum := "887f12f8e8be45330c44933d85aabc03fb92559082b29f2cf1df7f213be557c6", func := "tangram/tangramlaw25.GridFull", spec := "gridFull", unfollowed := true, recurses := true, named := ["tangram/lr.empty"], plainKeys := false, apart := false, laid := [("tangram/lr.empty", laid_tangram_lr_empty)] }
def GridFullSaid : Prop := gridFullRow.holds Tryz.pinned (OpenSpec.ofChange gridFullSpec)

/-- ITS FALSE NEIGHBOUR: 'it returns false'. Refute it at one input. -/
def gridFullWrong : ChangeSpec := { name := "gridFull", fn := fun _ => fun
  | [d] => { results := [.lit (.bool false)], args := [d] }
  | _ => none }
def GridFullWrongFalsely : Prop := gridFullRow.holds Tryz.pinned (OpenSpec.ofChange gridFullWrong)

/- THE SECOND FORM. 'bulk': how many values and letters a reading holds, each counted each time it is reached (what is shared counts as often as it is met; a slice's spare places count too). A statement '..UptoSaid' is the law's where the arguments, and the package variables that the reading takes, are together of bulk at most 1048576: NARROWER than '..Said'. Prove '..Said' where nothing that the law and all that it calls make is longer than what came in: it says more and counts as full. Else prove '..UptoSaid'. A law counts once. -/
mutual
def uptoBulk {H : Type} : DataW H → Nat
  | .lit (.string bytes) => bytes.length + 1
  | .lit _ => 1
  | .nil => 1
  | .ptr d => uptoBulk d + 1
  | .slice elems spare => uptoBulkAll elems + uptoBulkAll spare + 1
  | .agg parts => uptoBulkAll parts + 1
  | .iface _ d => uptoBulk d + 1
  | .map entries => uptoBulkEntries entries + 1
  | .held _ => 1
def uptoBulkAll {H : Type} : List (DataW H) → Nat
  | [] => 0
  | d :: r => uptoBulk d + uptoBulkAll r
def uptoBulkEntries {H : Type} : List (Lit × DataW H) → Nat
  | [] => 0
  | x :: r => uptoBulkEntry x + uptoBulkEntries r
def uptoBulkEntry {H : Type} : Lit × DataW H → Nat
  | (.string bytes, d) => bytes.length + uptoBulk d + 1
  | (_, d) => uptoBulk d + 1
 end
def uptoSmall : (H : Type) → List (DataW H) → Bool := fun _ ds => decide (uptoBulkAll ds ≤ 1048576)
def OpenSpec.upto (s : _root_.Go.ChangeSpec) : _root_.Go.OpenSpec := { _root_.Go.OpenSpec.ofChange s with cond := some uptoSmall }

/-- 'tangramlaw27.ColourFive', WHERE WHAT IT READS IS OF BULK AT MOST 1048576: true; the input reads as it did. -/
def colourFiveUptoRow : OpenClaim := { program := "ytjfppkhaiooloaagreatdoor", sum := "887f12f8e8be45330c44933d85aabc03fb92559082b29f2cf1df7f213be557c6", func := "tangram/tangramlaw27.ColourFive", spec := "colourFive", unfollowed := true, recurses := true, named := ["tangram/lr.empty"], plainKeys := false, apart := false, laid := [("tangram/lr.empty", laid_tangram_lr_empty)], narrowed := true }
def ColourFiveUptoSaid : Prop := colourFiveUptoRow.holds Tryz.pinned (OpenSpec.upto colourFiveSpec)

/-- 'tangramlaw27.ColourProper', WHERE WHAT IT READS IS OF BULK AT MOST 1048576: true; the input reads as it did. -/
def colourProperUptoRow : OpenClaim := { program := "ytjfppkhaiooloaagreatdoor", sum := "887f12f8e8be45330c44933d85aabc03fb92559082b29f2cf1df7f213be557c6", func := "tangram/tangramlaw27.ColourProper", spec := "colourProper", unfollowed := true, recurses := true, named := ["tangram/lr.empty"], plainKeys := false, apart := false, laid := [("tangram/lr.empty", laid_tangram_lr_empty)], narrowed := true }
def ColourProperUptoSaid : Prop := colourProperUptoRow.holds Tryz.pinned (OpenSpec.upto colourProperSpec)

/-- 'tangramlaw27.ColourPeels', WHERE WHAT IT READS IS OF BULK AT MOST 1048576: true; the input reads as it did. -/
def colourPeelsUptoRow : OpenClaim := { program := "ytjfppkhaiooloaagreatdoor", sum := "887f12f8e8be45330c44933d85aabc03fb92559082b29f2cf1df7f213be557c6", func := "tangram/tangramlaw27.ColourPeels", spec := "colourPeels", unfollowed := true, recurses := true, named := ["tangram/lr.empty"], plainKeys := false, apart := false, laid := [("tangram/lr.empty", laid_tangram_lr_empty)], narrowed := true }
def ColourPeelsUptoSaid : Prop := colourPeelsUptoRow.holds Tryz.pinned (OpenSpec.upto colourPeelsSpec)

/-- 'tangramlaw27.ColourGreedy', WHERE WHAT IT READS IS OF BULK AT MOST 1048576: true; the input reads as it did. -/
def colourGreedyUptoRow : OpenClaim := { program := "ytjfppkhaiooloaagreatdoor", sum := "887f12f8e8be45330c44933d85aabc03fb92559082b29f2cf1df7f213be557c6", func := "tangram/tangramlaw27.ColourGreedy", spec := "colourGreedy", unfollowed := true, recurses := true, named := ["tangram/lr.empty"], plainKeys := false, apart := false, laid := [("tangram/lr.empty", laid_tangram_lr_empty)], narrowed := true }
def ColourGreedyUptoSaid : Prop := colourGreedyUptoRow.holds Tryz.pinned (OpenSpec.upto colourGreedySpec)

/-- 'tangramlaw27.ColourThin', WHERE WHAT IT READS IS OF BULK AT MOST 1048576: true; the input reads as it did. -/
def colourThinUptoRow : OpenClaim := { program := "ytjfppkhaiooloaagreatdoor", sum := "887f12f8e8be45330c44933d85aabc03fb92559082b29f2cf1df7f213be557c6", func := "tangram/tangramlaw27.ColourThin", spec := "colourThin", unfollowed := true, recurses := true, named := ["tangram/lr.empty"], plainKeys := false, apart := false, laid := [("tangram/lr.empty", laid_tangram_lr_empty)], narrowed := true }
def ColourThinUptoSaid : Prop := colourThinUptoRow.holds Tryz.pinned (OpenSpec.upto colourThinSpec)

/-- 'tangramlaw27.ColourLeast', WHERE WHAT IT READS IS OF BULK AT MOST 1048576: true; the input reads as it did. -/
def colourLeastUptoRow : OpenClaim := { program := "ytjfppkhaiooloaagreatdoor", sum := "887f12f8e8be45330c44933d85aabc03fb92559082b29f2cf1df7f213be557c6", func := "tangram/tangramlaw27.ColourLeast", spec := "colourLeast", unfollowed := true, recurses := true, named := ["tangram/lr.empty"], plainKeys := false, apart := false, laid := [("tangram/lr.empty", laid_tangram_lr_empty)], narrowed := true }
def ColourLeastUptoSaid : Prop := colourLeastUptoRow.holds Tryz.pinned (OpenSpec.upto colourLeastSpec)

/-- 'tangramlaw27.ColourOwn', WHERE WHAT IT READS IS OF BULK AT MOST 1048576: true; the input reads as it did. -/
def colourOwnUptoRow : OpenClaim := { program := "ytjfppkhaiooloaagreatdoor", sum := "887f12f8e8be45330c44933d85aabc03fb92559082b29f2cf1df7f213be557c6", func := "tangram/tangramlaw27.ColourOwn", spec := "colourOwn", unfollowed := true, recurses := true, named := ["tangram/lr.empty"], plainKeys := false, apart := false, laid := [("tangram/lr.empty", laid_tangram_lr_empty)], narrowed := true }
def ColourOwnUptoSaid : Prop := colourOwnUptoRow.holds Tryz.pinned (OpenSpec.upto colourOwnSpec)

/-- 'tangramlaw13.EmbedSides', WHERE WHAT IT READS IS OF BULK AT MOST 1048576: true; the input reads as it did. -/
def embedSidesUptoRow : OpenClaim := { program := "ytjfppkhaiooloaagreatdoor", sum := "887f12f8e8be45330c44933d85aabc03fb92559082b29f2cf1df7f213be557c6", func := "tangram/tangramlaw13.EmbedSides", spec := "embedSides", unfollowed := true, recurses := true, named := ["tangram/lr.empty"], plainKeys := false, apart := false, laid := [("tangram/lr.empty", laid_tangram_lr_empty)], narrowed := true }
def EmbedSidesUptoSaid : Prop := embedSidesUptoRow.holds Tryz.pinned (OpenSpec.upto embedSidesSpec)

/-- 'tangramlaw13.EmbedFrom', WHERE WHAT IT READS IS OF BULK AT MOST 1048576: true; the input reads as it did. -/
def embedFromUptoRow : OpenClaim := { program := "ytjfppkhaiooloaagreatdoor", sum := "887f12f8e8be45330c44933d85aabc03fb92559082b29f2cf1df7f213be557c6", func := "tangram/tangramlaw13.EmbedFrom", spec := "embedFrom", unfollowed := true, recurses := true, named := ["tangram/lr.empty"], plainKeys := false, apart := false, laid := [("tangram/lr.empty", laid_tangram_lr_empty)], narrowed := true }
def EmbedFromUptoSaid : Prop := embedFromUptoRow.holds Tryz.pinned (OpenSpec.upto embedFromSpec)

/-- 'tangramlaw13.EmbedOwn', WHERE WHAT IT READS IS OF BULK AT MOST 1048576: true; the input reads as it did. -/
def embedOwnUptoRow : OpenClaim := { program := "ytjfppkhaiooloaagreatdoor", sum := "887f12f8e8be45330c44933d85aabc03fb92559082b29f2cf1df7f213be557c6", func := "tangram/tangramlaw13.EmbedOwn", spec := "embedOwn", unfollowed := true, recurses := true, named := ["tangram/lr.empty"], plainKeys := false, apart := false, laid := [("tangram/lr.empty", laid_tangram_lr_empty)], narrowed := true }
def EmbedOwnUptoSaid : Prop := embedOwnUptoRow.holds Tryz.pinned (OpenSpec.upto embedOwnSpec)

/-- 'tangramlaw13.EmbedAgrees', WHERE WHAT IT READS IS OF BULK AT MOST 1048576: true; the input reads as it did. -/
def embedAgreesUptoRow : OpenClaim := { program := "ytjfppkhaiooloaagreatdoor", sum := "887f12f8e8be45330c44933d85aabc03fb92559082b29f2cf1df7f213be557c6", func := "tangram/tangramlaw13.EmbedAgrees", spec := "embedAgrees", unfollowed := true, recurses := true, named := ["tangram/lr.empty"], plainKeys := false, apart := false, laid := [("tangram/lr.empty", laid_tangram_lr_empty)], narrowed := true }
def EmbedAgreesUptoSaid : Prop := embedAgreesUptoRow.holds Tryz.pinned (OpenSpec.upto embedAgreesSpec)

/-- 'tangramlaw20.GenShapes', WHERE WHAT IT READS IS OF BULK AT MOST 1048576: true; the input reads as it did. -/
def genShapesUptoRow : OpenClaim := { program := "ytjfppkhaiooloaagreatdoor", sum := "887f12f8e8be45330c44933d85aabc03fb92559082b29f2cf1df7f213be557c6", func := "tangram/tangramlaw20.GenShapes", spec := "genShapes", unfollowed := true, recurses := true, named := ["tangram/lr.empty"], plainKeys := false, apart := false, laid := [("tangram/lr.empty", laid_tangram_lr_empty)], narrowed := true }
def GenShapesUptoSaid : Prop := genShapesUptoRow.holds Tryz.pinned (OpenSpec.upto genShapesSpec)

/-- 'tangramlaw28.OuterNames', WHERE WHAT IT READS IS OF BULK AT MOST 1048576: true; the input reads as it did. -/
def outerNamesUptoRow : OpenClaim := { program := "ytjfppkhaiooloaagreatdoor", sum := "887f12f8e8be45330c44933d85aabc03fb92559082b29f2cf1df7f213be557c6", func := "tangram/tangramlaw28.OuterNames", spec := "outerNames", unfollowed := true, recurses := true, named := ["tangram/lr.empty"], plainKeys := false, apart := false, laid := [("tangram/lr.empty", laid_tangram_lr_empty)], narrowed := true }
def OuterNamesUptoSaid : Prop := outerNamesUptoRow.holds Tryz.pinned (OpenSpec.upto outerNamesSpec)

/-- 'tangramlaw28.OuterFinds', WHERE WHAT IT READS IS OF BULK AT MOST 1048576: true; the input reads as it did. -/
def outerFindsUptoRow : OpenClaim := { program := "ytjfppkhaiooloaagreatdoor", sum := "887f12f8e8be45330c44933d85aabc03fb92559082b29f2cf1df7f213be557c6", func := "tangram/tangramlaw28.OuterFinds", spec := "outerFinds", unfollowed := true, recurses := true, named := ["tangram/lr.empty"], plainKeys := false, apart := false, laid := [("tangram/lr.empty", laid_tangram_lr_empty)], narrowed := true }
def OuterFindsUptoSaid : Prop := outerFindsUptoRow.holds Tryz.pinned (OpenSpec.upto outerFindsSpec)

/-- 'tangramlaw28.OuterValid', WHERE WHAT IT READS IS OF BULK AT MOST 1048576: true; the input reads as it did. -/
def outerValidUptoRow : OpenClaim := { program := "ytjfppkhaiooloaagreatdoor", sum := "887f12f8e8be45330c44933d85aabc03fb92559082b29f2cf1df7f213be557c6", func := "tangram/tangramlaw28.OuterValid", spec := "outerValid", unfollowed := true, recurses := true, named := ["tangram/lr.empty"], plainKeys := false, apart := false, laid := [("tangram/lr.empty", laid_tangram_lr_empty)], narrowed := true }
def OuterValidUptoSaid : Prop := outerValidUptoRow.holds Tryz.pinned (OpenSpec.upto outerValidSpec)

/-- 'tangramlaw28.OuterShows', WHERE WHAT IT READS IS OF BULK AT MOST 1048576: true; the input reads as it did. -/
def outerShowsUptoRow : OpenClaim := { program := "ytjfppkhaiooloaagreatdoor", sum := "887f12f8e8be45330c44933d85aabc03fb92559082b29f2cf1df7f213be557c6", func := "tangram/tangramlaw28.OuterShows", spec := "outerShows", unfollowed := true, recurses := true, named := ["tangram/lr.empty"], plainKeys := false, apart := false, laid := [("tangram/lr.empty", laid_tangram_lr_empty)], narrowed := true }
def OuterShowsUptoSaid : Prop := outerShowsUptoRow.holds Tryz.pinned (OpenSpec.upto outerShowsSpec)

/-- 'tangramlaw28.OuterParts', WHERE WHAT IT READS IS OF BULK AT MOST 1048576: true; the input reads as it did. -/
def outerPartsUptoRow : OpenClaim := { program := "ytjfppkhaiooloaagreatdoor", sum := "887f12f8e8be45330c44933d85aabc03fb92559082b29f2cf1df7f213be557c6", func := "tangram/tangramlaw28.OuterParts", spec := "outerParts", unfollowed := true, recurses := true, named := ["tangram/lr.empty"], plainKeys := false, apart := false, laid := [("tangram/lr.empty", laid_tangram_lr_empty)], narrowed := true }
def OuterPartsUptoSaid : Prop := outerPartsUptoRow.holds Tryz.pinned (OpenSpec.upto outerPartsSpec)

/-- 'tangramlaw28.OuterMemory', WHERE WHAT IT READS IS OF BULK AT MOST 1048576: true; the input reads as it did. -/
def outerMemoryUptoRow : OpenClaim := { program := "ytjfppkhaiooloaagreatdoor", sum := "887f12f8e8be45330c44933d85aabc03fb92559082b29f2cf1df7f213be557c6", func := "tangram/tangramlaw28.OuterMemory", spec := "outerMemory", unfollowed := true, recurses := true, named := ["tangram/lr.empty"], plainKeys := false, apart := false, laid := [("tangram/lr.empty", laid_tangram_lr_empty)], narrowed := true }
def OuterMemoryUptoSaid : Prop := outerMemoryUptoRow.holds Tryz.pinned (OpenSpec.upto outerMemorySpec)

/-- 'tangramlaw28.OuterApex', WHERE WHAT IT READS IS OF BULK AT MOST 1048576: true; the input reads as it did. -/
def outerApexUptoRow : OpenClaim := { program := "ytjfppkhaiooloaagreatdoor", sum := "887f12f8e8be45330c44933d85aabc03fb92559082b29f2cf1df7f213be557c6", func := "tangram/tangramlaw28.OuterApex", spec := "outerApex", unfollowed := true, recurses := true, named := ["tangram/lr.empty"], plainKeys := false, apart := false, laid := [("tangram/lr.empty", laid_tangram_lr_empty)], narrowed := true }
def OuterApexUptoSaid : Prop := outerApexUptoRow.holds Tryz.pinned (OpenSpec.upto outerApexSpec)

/-- 'tangramlaw25.GridSizes', WHERE WHAT IT READS IS OF BULK AT MOST 1048576: true; the input reads as it did. -/
def gridSizesUptoRow : OpenClaim := { program := "ytjfppkhaiooloaagreatdoor", sum := "887f12f8e8be45330c44933d85aabc03fb92559082b29f2cf1df7f213be557c6", func := "tangram/tangramlaw25.GridSizes", spec := "gridSizes", unfollowed := true, recurses := true, named := ["tangram/lr.empty"], plainKeys := false, apart := false, laid := [("tangram/lr.empty", laid_tangram_lr_empty)], narrowed := true }
def GridSizesUptoSaid : Prop := gridSizesUptoRow.holds Tryz.pinned (OpenSpec.upto gridSizesSpec)

/-- 'tangramlaw25.GridFull', WHERE WHAT IT READS IS OF BULK AT MOST 1048576: true; the input reads as it did. -/
def gridFullUptoRow : OpenClaim := { program := "ytjfppkhaiooloaagreatdoor", sum := "887f12f8e8be45330c44933d85aabc03fb92559082b29f2cf1df7f213be557c6", func := "tangram/tangramlaw25.GridFull", spec := "gridFull", unfollowed := true, recurses := true, named := ["tangram/lr.empty"], plainKeys := false, apart := false, laid := [("tangram/lr.empty", laid_tangram_lr_empty)], narrowed := true }
def GridFullUptoSaid : Prop := gridFullUptoRow.holds Tryz.pinned (OpenSpec.upto gridFullSpec)

end Rows
end Go.Proofs.YtjfppkhaiooloaaGreatDoor
