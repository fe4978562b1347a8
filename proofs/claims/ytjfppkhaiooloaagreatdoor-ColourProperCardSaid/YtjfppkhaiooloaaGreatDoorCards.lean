/-
  DERIVED. GIVEN WITH THE SEED: THE CARDS: each row of YtjfppkhaiooloaaGreatDoorRows.lean that lists a variable, with what it lists TIED to the program's text (the seventh form; the later family's looks); each row that meets fmt, with fmt's text TOLD by the authors' own Lean function (tested against real Go, not proved from fmt's source: count such statements apart). THE CARD IS WHAT COUNTS. Prove the row's statement (the work); the ties are given (YtjfppkhaiooloaaGreatDoorTie.lean); close each card by the builder's one call (the guide's Derived/Test/ToyasCard.lean, 'card_holds'). Laid BY PROGRAM, IN A SANDBOX (cutbox-door.mjs). By AI agents, Wed Nov 11 2026. No macro, syntax, notation, axiom, sorry.
-/
import Derived.Test.YtjfppkhaiooloaaGreatDoorRows
import GoSem.ClaimSeven
namespace Go.Proofs.YtjfppkhaiooloaaGreatDoor
namespace Rows

/-- THE TIED CARD OF 'tangramlaw27.ColourFive'. -/
def colourFiveCard : Claim7 := { stood := { row := colourFiveRow, standIns := [], harness := (true, "616e14b79dddb718d9b7f0eb40e9a4e6db67c4ceb66c2f56635212fa935b5525"), looks := true }, kinds := [], alts := [], laidByText := true, laidKinds := [.data], laidTests := true, laidLooks := .later }
def ColourFiveCardSaid : Prop := Claim7.holds Tryz.pinned (.plain (OpenSpec.ofChange colourFiveSpec)) colourFiveCard

/-- THE TIED CARD OF 'tangramlaw27.ColourProper'. -/
def colourProperCard : Claim7 := { stood := { row := colourProperRow, standIns := [], harness := (true, "616e14b79dddb718d9b7f0eb40e9a4e6db67c4ceb66c2f56635212fa935b5525"), looks := true }, kinds := [], alts := [], laidByText := true, laidKinds := [.data], laidTests := true, laidLooks := .later }
def ColourProperCardSaid : Prop := Claim7.holds Tryz.pinned (.plain (OpenSpec.ofChange colourProperSpec)) colourProperCard

/-- THE TIED CARD OF 'tangramlaw27.ColourPeels'. -/
def colourPeelsCard : Claim7 := { stood := { row := colourPeelsRow, standIns := [], harness := (true, "616e14b79dddb718d9b7f0eb40e9a4e6db67c4ceb66c2f56635212fa935b5525"), looks := true }, kinds := [], alts := [], laidByText := true, laidKinds := [.data], laidTests := true, laidLooks := .later }
def ColourPeelsCardSaid : Prop := Claim7.holds Tryz.pinned (.plain (OpenSpec.ofChange colourPeelsSpec)) colourPeelsCard

/-- THE TIED CARD OF 'tangramlaw27.ColourGreedy'. -/
def colourGreedyCard : Claim7 := { stood := { row := colourGreedyRow, standIns := [], harness := (true, "616e14b79dddb718d9b7f0eb40e9a4e6db67c4ceb66c2f56635212fa935b5525"), looks := true }, kinds := [], alts := [], laidByText := true, laidKinds := [.data], laidTests := true, laidLooks := .later }
def ColourGreedyCardSaid : Prop := Claim7.holds Tryz.pinned (.plain (OpenSpec.ofChange colourGreedySpec)) colourGreedyCard

/-- THE TIED CARD OF 'tangramlaw27.ColourThin'. -/
def colourThinCard : Claim7 := { stood := { row := colourThinRow, standIns := [], harness := (true, "616e14b79dddb718d9b7f0eb40e9a4e6db67c4ceb66c2f56635212fa935b5525"), looks := true }, kinds := [], alts := [], laidByText := true, laidKinds := [.data], laidTests := true, laidLooks := .later }
def ColourThinCardSaid : Prop := Claim7.holds Tryz.pinned (.plain (OpenSpec.ofChange colourThinSpec)) colourThinCard

/-- THE TIED CARD OF 'tangramlaw27.ColourLeast'. -/
def colourLeastCard : Claim7 := { stood := { row := colourLeastRow, standIns := [], harness := (true, "616e14b79dddb718d9b7f0eb40e9a4e6db67c4ceb66c2f56635212fa935b5525"), looks := true }, kinds := [], alts := [], laidByText := true, laidKinds := [.data], laidTests := true, laidLooks := .later }
def ColourLeastCardSaid : Prop := Claim7.holds Tryz.pinned (.plain (OpenSpec.ofChange colourLeastSpec)) colourLeastCard

/-- THE TIED CARD OF 'tangramlaw27.ColourOwn'. -/
def colourOwnCard : Claim7 := { stood := { row := colourOwnRow, standIns := [], harness := (true, "616e14b79dddb718d9b7f0eb40e9a4e6db67c4ceb66c2f56635212fa935b5525"), looks := true }, kinds := [], alts := [], laidByText := true, laidKinds := [.data], laidTests := true, laidLooks := .later }
def ColourOwnCardSaid : Prop := Claim7.holds Tryz.pinned (.plain (OpenSpec.ofChange colourOwnSpec)) colourOwnCard

/-- THE TIED CARD OF 'tangramlaw13.EmbedSides'. -/
def embedSidesCard : Claim7 := { stood := { row := embedSidesRow, standIns := [], harness := (true, "616e14b79dddb718d9b7f0eb40e9a4e6db67c4ceb66c2f56635212fa935b5525"), looks := true }, kinds := [], alts := [], laidByText := true, laidKinds := [.data], laidTests := true, laidLooks := .later }
def EmbedSidesCardSaid : Prop := Claim7.holds Tryz.pinned (.plain (OpenSpec.ofChange embedSidesSpec)) embedSidesCard

/-- THE TIED CARD OF 'tangramlaw13.EmbedFrom'. -/
def embedFromCard : Claim7 := { stood := { row := embedFromRow, standIns := [], harness := (true, "616e14b79dddb718d9b7f0eb40e9a4e6db67c4ceb66c2f56635212fa935b5525"), looks := true }, kinds := [], alts := [], laidByText := true, laidKinds := [.data], laidTests := true, laidLooks := .later }
def EmbedFromCardSaid : Prop := Claim7.holds Tryz.pinned (.plain (OpenSpec.ofChange embedFromSpec)) embedFromCard

/-- THE TIED CARD OF 'tangramlaw13.EmbedOwn'. -/
def embedOwnCard : Claim7 := { stood := { row := embedOwnRow, standIns := [], harness := (true, "616e14b79dddb718d9b7f0eb40e9a4e6db67c4ceb66c2f56635212fa935b5525"), looks := true }, kinds := [], alts := [], laidByText := true, laidKinds := [.data], laidTests := true, laidLooks := .later }
def EmbedOwnCardSaid : Prop := Claim7.holds Tryz.pinned (.plain (OpenSpec.ofChange embedOwnSpec)) embedOwnCard

/-- THE TIED CARD OF 'tangramlaw13.EmbedAgrees'. -/
def embedAgreesCard : Claim7 := { stood := { row := embedAgreesRow, standIns := [], harness := (true, "616e14b79dddb718d9b7f0eb40e9a4e6db67c4ceb66c2f56635212fa935b5525"), looks := true }, kinds := [], alts := [], laidByText := true, laidKinds := [.data], laidTests := true, laidLooks := .later }
def EmbedAgreesCardSaid : Prop := Claim7.holds Tryz.pinned (.plain (OpenSpec.ofChange embedAgreesSpec)) embedAgreesCard

/-- THE TIED CARD OF 'tangramlaw20.GenShapes'. -/
def genShapesCard : Claim7 := { stood := { row := genShapesRow, standIns := [], harness := (true, "616e14b79dddb718d9b7f0eb40e9a4e6db67c4ceb66c2f56635212fa935b5525"), looks := true }, kinds := [], alts := [], laidByText := true, laidKinds := [.data], laidTests := true, laidLooks := .later }
def GenShapesCardSaid : Prop := Claim7.holds Tryz.pinned (.plain (OpenSpec.ofChange genShapesSpec)) genShapesCard

/-- THE TIED CARD OF 'tangramlaw28.OuterNames'. -/
def outerNamesCard : Claim7 := { stood := { row := outerNamesRow, standIns := [], harness := (true, "616e14b79dddb718d9b7f0eb40e9a4e6db67c4ceb66c2f56635212fa935b5525"), looks := true }, kinds := [], alts := [], laidByText := true, laidKinds := [.data], laidTests := true, laidLooks := .later }
def OuterNamesCardSaid : Prop := Claim7.holds Tryz.pinned (.plain (OpenSpec.ofChange outerNamesSpec)) outerNamesCard

/-- THE TIED CARD OF 'tangramlaw28.OuterFinds'. -/
def outerFindsCard : Claim7 := { stood := { row := outerFindsRow, standIns := [], harness := (true, "616e14b79dddb718d9b7f0eb40e9a4e6db67c4ceb66c2f56635212fa935b5525"), looks := true }, kinds := [], alts := [], laidByText := true, laidKinds := [.data], laidTests := true, laidLooks := .later }
def OuterFindsCardSaid : Prop := Claim7.holds Tryz.pinned (.plain (OpenSpec.ofChange outerFindsSpec)) outerFindsCard

/-- THE TIED CARD OF 'tangramlaw28.OuterValid'. -/
def outerValidCard : Claim7 := { stood := { row := outerValidRow, standIns := [], harness := (true, "616e14b79dddb718d9b7f0eb40e9a4e6db67c4ceb66c2f56635212fa935b5525"), looks := true }, kinds := [], alts := [], laidByText := true, laidKinds := [.data], laidTests := true, laidLooks := .later }
def OuterValidCardSaid : Prop := Claim7.holds Tryz.pinned (.plain (OpenSpec.ofChange outerValidSpec)) outerValidCard

/-- THE TIED CARD OF 'tangramlaw28.OuterShows'. -/
def outerShowsCard : Claim7 := { stood := { row := outerShowsRow, standIns := [], harness := (true, "616e14b79dddb718d9b7f0eb40e9a4e6db67c4ceb66c2f56635212fa935b5525"), looks := true }, kinds := [], alts := [], laidByText := true, laidKinds := [.data], laidTests := true, laidLooks := .later }
def OuterShowsCardSaid : Prop := Claim7.holds Tryz.pinned (.plain (OpenSpec.ofChange outerShowsSpec)) outerShowsCard

/-- THE TIED CARD OF 'tangramlaw28.OuterParts'. -/
def outerPartsCard : Claim7 := { stood := { row := outerPartsRow, standIns := [], harness := (true, "616e14b79dddb718d9b7f0eb40e9a4e6db67c4ceb66c2f56635212fa935b5525"), looks := true }, kinds := [], alts := [], laidByText := true, laidKinds := [.data], laidTests := true, laidLooks := .later }
def OuterPartsCardSaid : Prop := Claim7.holds Tryz.pinned (.plain (OpenSpec.ofChange outerPartsSpec)) outerPartsCard

/-- THE TIED CARD OF 'tangramlaw28.OuterMemory'. -/
def outerMemoryCard : Claim7 := { stood := { row := outerMemoryRow, standIns := [], harness := (true, "616e14b79dddb718d9b7f0eb40e9a4e6db67c4ceb66c2f56635212fa935b5525"), looks := true }, kinds := [], alts := [], laidByText := true, laidKinds := [.data], laidTests := true, laidLooks := .later }
def OuterMemoryCardSaid : Prop := Claim7.holds Tryz.pinned (.plain (OpenSpec.ofChange outerMemorySpec)) outerMemoryCard

/-- THE TIED CARD OF 'tangramlaw28.OuterApex'. -/
def outerApexCard : Claim7 := { stood := { row := outerApexRow, standIns := [], harness := (true, "616e14b79dddb718d9b7f0eb40e9a4e6db67c4ceb66c2f56635212fa935b5525"), looks := true }, kinds := [], alts := [], laidByText := true, laidKinds := [.data], laidTests := true, laidLooks := .later }
def OuterApexCardSaid : Prop := Claim7.holds Tryz.pinned (.plain (OpenSpec.ofChange outerApexSpec)) outerApexCard

/-- THE TIED CARD OF 'tangramlaw25.GridSizes'. -/
def gridSizesCard : Claim7 := { stood := { row := gridSizesRow, standIns := [], harness := (true, "616e14b79dddb718d9b7f0eb40e9a4e6db67c4ceb66c2f56635212fa935b5525"), looks := true }, kinds := [], alts := [], laidByText := true, laidKinds := [.data], laidTests := true, laidLooks := .later }
def GridSizesCardSaid : Prop := Claim7.holds Tryz.pinned (.plain (OpenSpec.ofChange gridSizesSpec)) gridSizesCard

/-- THE TIED CARD OF 'tangramlaw25.GridFull'. -/
def gridFullCard : Claim7 := { stood := { row := gridFullRow, standIns := [], harness := (true, "616e14b79dddb718d9b7f0eb40e9a4e6db67c4ceb66c2f56635212fa935b5525"), looks := true }, kinds := [], alts := [], laidByText := true, laidKinds := [.data], laidTests := true, laidLooks := .later }
def GridFullCardSaid : Prop := Claim7.holds Tryz.pinned (.plain (OpenSpec.ofChange gridFullSpec)) gridFullCard

/-- THE SECOND FORM's CARD OF 'tangramlaw27.ColourFive'. -/
def colourFiveUptoCard : Claim7 := { stood := { row := colourFiveUptoRow, standIns := [], harness := (true, "616e14b79dddb718d9b7f0eb40e9a4e6db67c4ceb66c2f56635212fa935b5525"), looks := true }, kinds := [], alts := [], laidByText := true, laidKinds := [.data], laidTests := true, laidLooks := .later }
def ColourFiveUptoCardSaid : Prop := Claim7.holds Tryz.pinned (.plain (OpenSpec.upto colourFiveSpec)) colourFiveUptoCard

/-- THE SECOND FORM's CARD OF 'tangramlaw27.ColourProper'. -/
def colourProperUptoCard : Claim7 := { stood := { row := colourProperUptoRow, standIns := [], harness := (true, "616e14b79dddb718d9b7f0eb40e9a4e6db67c4ceb66c2f56635212fa935b5525"), looks := true }, kinds := [], alts := [], laidByText := true, laidKinds := [.data], laidTests := true, laidLooks := .later }
def ColourProperUptoCardSaid : Prop := Claim7.holds Tryz.pinned (.plain (OpenSpec.upto colourProperSpec)) colourProperUptoCard

/-- THE SECOND FORM's CARD OF 'tangramlaw27.ColourPeels'. -/
def colourPeelsUptoCard : Claim7 := { stood := { row := colourPeelsUptoRow, standIns := [], harness := (true, "616e14b79dddb718d9b7f0eb40e9a4e6db67c4ceb66c2f56635212fa935b5525"), looks := true }, kinds := [], alts := [], laidByText := true, laidKinds := [.data], laidTests := true, laidLooks := .later }
def ColourPeelsUptoCardSaid : Prop := Claim7.holds Tryz.pinned (.plain (OpenSpec.upto colourPeelsSpec)) colourPeelsUptoCard

/-- THE SECOND FORM's CARD OF 'tangramlaw27.ColourGreedy'. -/
def colourGreedyUptoCard : Claim7 := { stood := { row := colourGreedyUptoRow, standIns := [], harness := (true, "616e14b79dddb718d9b7f0eb40e9a4e6db67c4ceb66c2f56635212fa935b5525"), looks := true }, kinds := [], alts := [], laidByText := true, laidKinds := [.data], laidTests := true, laidLooks := .later }
def ColourGreedyUptoCardSaid : Prop := Claim7.holds Tryz.pinned (.plain (OpenSpec.upto colourGreedySpec)) colourGreedyUptoCard

/-- THE SECOND FORM's CARD OF 'tangramlaw27.ColourThin'. -/
def colourThinUptoCard : Claim7 := { stood := { row := colourThinUptoRow, standIns := [], harness := (true, "616e14b79dddb718d9b7f0eb40e9a4e6db67c4ceb66c2f56635212fa935b5525"), looks := true }, kinds := [], alts := [], laidByText := true, laidKinds := [.data], laidTests := true, laidLooks := .later }
def ColourThinUptoCardSaid : Prop := Claim7.holds Tryz.pinned (.plain (OpenSpec.upto colourThinSpec)) colourThinUptoCard

/-- THE SECOND FORM's CARD OF 'tangramlaw27.ColourLeast'. -/
def colourLeastUptoCard : Claim7 := { stood := { row := colourLeastUptoRow, standIns := [], harness := (true, "616e14b79dddb718d9b7f0eb40e9a4e6db67c4ceb66c2f56635212fa935b5525"), looks := true }, kinds := [], alts := [], laidByText := true, laidKinds := [.data], laidTests := true, laidLooks := .later }
def ColourLeastUptoCardSaid : Prop := Claim7.holds Tryz.pinned (.plain (OpenSpec.upto colourLeastSpec)) colourLeastUptoCard

/-- THE SECOND FORM's CARD OF 'tangramlaw27.ColourOwn'. -/
def colourOwnUptoCard : Claim7 := { stood := { row := colourOwnUptoRow, standIns := [], harness := (true, "616e14b79dddb718d9b7f0eb40e9a4e6db67c4ceb66c2f56635212fa935b5525"), looks := true }, kinds := [], alts := [], laidByText := true, laidKinds := [.data], laidTests := true, laidLooks := .later }
def ColourOwnUptoCardSaid : Prop := Claim7.holds Tryz.pinned (.plain (OpenSpec.upto colourOwnSpec)) colourOwnUptoCard

/-- THE SECOND FORM's CARD OF 'tangramlaw13.EmbedSides'. -/
def embedSidesUptoCard : Claim7 := { stood := { row := embedSidesUptoRow, standIns := [], harness := (true, "616e14b79dddb718d9b7f0eb40e9a4e6db67c4ceb66c2f56635212fa935b5525"), looks := true }, kinds := [], alts := [], laidByText := true, laidKinds := [.data], laidTests := true, laidLooks := .later }
def EmbedSidesUptoCardSaid : Prop := Claim7.holds Tryz.pinned (.plain (OpenSpec.upto embedSidesSpec)) embedSidesUptoCard

/-- THE SECOND FORM's CARD OF 'tangramlaw13.EmbedFrom'. -/
def embedFromUptoCard : Claim7 := { stood := { row := embedFromUptoRow, standIns := [], harness := (true, "616e14b79dddb718d9b7f0eb40e9a4e6db67c4ceb66c2f56635212fa935b5525"), looks := true }, kinds := [], alts := [], laidByText := true, laidKinds := [.data], laidTests := true, laidLooks := .later }
def EmbedFromUptoCardSaid : Prop := Claim7.holds Tryz.pinned (.plain (OpenSpec.upto embedFromSpec)) embedFromUptoCard

/-- THE SECOND FORM's CARD OF 'tangramlaw13.EmbedOwn'. -/
def embedOwnUptoCard : Claim7 := { stood := { row := embedOwnUptoRow, standIns := [], harness := (true, "616e14b79dddb718d9b7f0eb40e9a4e6db67c4ceb66c2f56635212fa935b5525"), looks := true }, kinds := [], alts := [], laidByText := true, laidKinds := [.data], laidTests := true, laidLooks := .later }
def EmbedOwnUptoCardSaid : Prop := Claim7.holds Tryz.pinned (.plain (OpenSpec.upto embedOwnSpec)) embedOwnUptoCard

/-- THE SECOND FORM's CARD OF 'tangramlaw13.EmbedAgrees'. -/
def embedAgreesUptoCard : Claim7 := { stood := { row := embedAgreesUptoRow, standIns := [], harness := (true, "616e14b79dddb718d9b7f0eb40e9a4e6db67c4ceb66c2f56635212fa935b5525"), looks := true }, kinds := [], alts := [], laidByText := true, laidKinds := [.data], laidTests := true, laidLooks := .later }
def EmbedAgreesUptoCardSaid : Prop := Claim7.holds Tryz.pinned (.plain (OpenSpec.upto embedAgreesSpec)) embedAgreesUptoCard

/-- THE SECOND FORM's CARD OF 'tangramlaw20.GenShapes'. -/
def genShapesUptoCard : Claim7 := { stood := { row := genShapesUptoRow, standIns := [], harness := (true, "616e14b79dddb718d9b7f0eb40e9a4e6db67c4ceb66c2f56635212fa935b5525"), looks := true }, kinds := [], alts := [], laidByText := true, laidKinds := [.data], laidTests := true, laidLooks := .later }
def GenShapesUptoCardSaid : Prop := Claim7.holds Tryz.pinned (.plain (OpenSpec.upto genShapesSpec)) genShapesUptoCard

/-- THE SECOND FORM's CARD OF 'tangramlaw28.OuterNames'. -/
def outerNamesUptoCard : Claim7 := { stood := { row := outerNamesUptoRow, standIns := [], harness := (true, "616e14b79dddb718d9b7f0eb40e9a4e6db67c4ceb66c2f56635212fa935b5525"), looks := true }, kinds := [], alts := [], laidByText := true, laidKinds := [.data], laidTests := true, laidLooks := .later }
def OuterNamesUptoCardSaid : Prop := Claim7.holds Tryz.pinned (.plain (OpenSpec.upto outerNamesSpec)) outerNamesUptoCard

/-- THE SECOND FORM's CARD OF 'tangramlaw28.OuterFinds'. -/
def outerFindsUptoCard : Claim7 := { stood := { row := outerFindsUptoRow, standIns := [], harness := (true, "616e14b79dddb718d9b7f0eb40e9a4e6db67c4ceb66c2f56635212fa935b5525"), looks := true }, kinds := [], alts := [], laidByText := true, laidKinds := [.data], laidTests := true, laidLooks := .later }
def OuterFindsUptoCardSaid : Prop := Claim7.holds Tryz.pinned (.plain (OpenSpec.upto outerFindsSpec)) outerFindsUptoCard

/-- THE SECOND FORM's CARD OF 'tangramlaw28.OuterValid'. -/
def outerValidUptoCard : Claim7 := { stood := { row := outerValidUptoRow, standIns := [], harness := (true, "616e14b79dddb718d9b7f0eb40e9a4e6db67c4ceb66c2f56635212fa935b5525"), looks := true }, kinds := [], alts := [], laidByText := true, laidKinds := [.data], laidTests := true, laidLooks := .later }
def OuterValidUptoCardSaid : Prop := Claim7.holds Tryz.pinned (.plain (OpenSpec.upto outerValidSpec)) outerValidUptoCard

/-- THE SECOND FORM's CARD OF 'tangramlaw28.OuterShows'. -/
def outerShowsUptoCard : Claim7 := { stood := { row := outerShowsUptoRow, standIns := [], harness := (true, "616e14b79dddb718d9b7f0eb40e9a4e6db67c4ceb66c2f56635212fa935b5525"), looks := true }, kinds := [], alts := [], laidByText := true, laidKinds := [.data], laidTests := true, laidLooks := .later }
def OuterShowsUptoCardSaid : Prop := Claim7.holds Tryz.pinned (.plain (OpenSpec.upto outerShowsSpec)) outerShowsUptoCard

/-- THE SECOND FORM's CARD OF 'tangramlaw28.OuterParts'. -/
def outerPartsUptoCard : Claim7 := { stood := { row := outerPartsUptoRow, standIns := [], harness := (true, "616e14b79dddb718d9b7f0eb40e9a4e6db67c4ceb66c2f56635212fa935b5525"), looks := true }, kinds := [], alts := [], laidByText := true, laidKinds := [.data], laidTests := true, laidLooks := .later }
def OuterPartsUptoCardSaid : Prop := Claim7.holds Tryz.pinned (.plain (OpenSpec.upto outerPartsSpec)) outerPartsUptoCard

/-- THE SECOND FORM's CARD OF 'tangramlaw28.OuterMemory'. -/
def outerMemoryUptoCard : Claim7 := { stood := { row := outerMemoryUptoRow, standIns := [], harness := (true, "616e14b79dddb718d9b7f0eb40e9a4e6db67c4ceb66c2f56635212fa935b5525"), looks := true }, kinds := [], alts := [], laidByText := true, laidKinds := [.data], laidTests := true, laidLooks := .later }
def OuterMemoryUptoCardSaid : Prop := Claim7.holds Tryz.pinned (.plain (OpenSpec.upto outerMemorySpec)) outerMemoryUptoCard

/-- THE SECOND FORM's CARD OF 'tangramlaw28.OuterApex'. -/
def outerApexUptoCard : Claim7 := { stood := { row := outerApexUptoRow, standIns := [], harness := (true, "616e14b79dddb718d9b7f0eb40e9a4e6db67c4ceb66c2f56635212fa935b5525"), looks := true }, kinds := [], alts := [], laidByText := true, laidKinds := [.data], laidTests := true, laidLooks := .later }
def OuterApexUptoCardSaid : Prop := Claim7.holds Tryz.pinned (.plain (OpenSpec.upto outerApexSpec)) outerApexUptoCard

/-- THE SECOND FORM's CARD OF 'tangramlaw25.GridSizes'. -/
def gridSizesUptoCard : Claim7 := { stood := { row := gridSizesUptoRow, standIns := [], harness := (true, "616e14b79dddb718d9b7f0eb40e9a4e6db67c4ceb66c2f56635212fa935b5525"), looks := true }, kinds := [], alts := [], laidByText := true, laidKinds := [.data], laidTests := true, laidLooks := .later }
def GridSizesUptoCardSaid : Prop := Claim7.holds Tryz.pinned (.plain (OpenSpec.upto gridSizesSpec)) gridSizesUptoCard

/-- THE SECOND FORM's CARD OF 'tangramlaw25.GridFull'. -/
def gridFullUptoCard : Claim7 := { stood := { row := gridFullUptoRow, standIns := [], harness := (true, "616e14b79dddb718d9b7f0eb40e9a4e6db67c4ceb66c2f56635212fa935b5525"), looks := true }, kinds := [], alts := [], laidByText := true, laidKinds := [.data], laidTests := true, laidLooks := .later }
def GridFullUptoCardSaid : Prop := Claim7.holds Tryz.pinned (.plain (OpenSpec.upto gridFullSpec)) gridFullUptoCard
end Rows
end Go.Proofs.YtjfppkhaiooloaaGreatDoor
