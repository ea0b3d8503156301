/-
  DERIVED. GIVEN WITH THE SEED: THE CARDS: each row of YtcmhompbdanpdaaGreatDoorRows.lean that lists a variable, with what it lists TIED to the program's text (the seventh form; the later family's looks); each row that meets fmt, with fmt's text TOLD by the authors' own Lean function (tested against real Go, not proved from fmt's source: count such statements apart). THE CARD IS WHAT COUNTS. Prove the row's statement (the work); the ties are given (YtcmhompbdanpdaaGreatDoorTie.lean); close each card by the builder's one call (the guide's Derived/Test/ToyasCard.lean, 'card_holds'). Laid BY PROGRAM, IN A SANDBOX (cutbox-door.mjs). By AI agents, Wed Nov 11 2026. No macro, syntax, notation, axiom, sorry.
-/
import Derived.Test.YtcmhompbdanpdaaGreatDoorRows
import GoSem.ClaimSeven
namespace Go.Proofs.YtcmhompbdanpdaaGreatDoor
namespace Rows

/-- THE TIED CARD OF 'metrolablaw27.ConvolveStacks'. -/
def convolveStacksCard : Claim7 := { stood := { row := convolveStacksRow, standIns := [], harness := (true, "f636447ea2cdb031c1770ebbd2d4b2c4974910b083154afd3138540b863d1673"), looks := true }, kinds := [], alts := [], laidByText := true, laidKinds := [.data, .data, .data, .data, .sentinel, .sentinel, .pinned], laidTests := true, laidLooks := .later }
def ConvolveStacksCardSaid : Prop := Claim7.holds Tryz.pinned (.plain (OpenSpec.ofChange convolveStacksSpec)) convolveStacksCard

/-- THE TIED CARD OF 'metrolablaw27.ConvolveParts'. -/
def convolvePartsCard : Claim7 := { stood := { row := convolvePartsRow, standIns := [], harness := (true, "f636447ea2cdb031c1770ebbd2d4b2c4974910b083154afd3138540b863d1673"), looks := true }, kinds := [], alts := [], laidByText := true, laidKinds := [.data, .data, .data, .data, .sentinel, .sentinel, .pinned], laidTests := true, laidLooks := .later }
def ConvolvePartsCardSaid : Prop := Claim7.holds Tryz.pinned (.plain (OpenSpec.ofChange convolvePartsSpec)) convolvePartsCard

/-- THE TIED CARD OF 'metrolablaw27.ConvolveShortens'. -/
def convolveShortensCard : Claim7 := { stood := { row := convolveShortensRow, standIns := [], harness := (true, "f636447ea2cdb031c1770ebbd2d4b2c4974910b083154afd3138540b863d1673"), looks := true }, kinds := [], alts := [], laidByText := true, laidKinds := [.data, .data, .data, .data, .sentinel, .sentinel, .pinned], laidTests := true, laidLooks := .later }
def ConvolveShortensCardSaid : Prop := Claim7.holds Tryz.pinned (.plain (OpenSpec.ofChange convolveShortensSpec)) convolveShortensCard

/-- THE TIED CARD OF 'metrolablaw27.ConvolveMoments'. -/
def convolveMomentsCard : Claim7 := { stood := { row := convolveMomentsRow, standIns := [], harness := (true, "f636447ea2cdb031c1770ebbd2d4b2c4974910b083154afd3138540b863d1673"), looks := true }, kinds := [], alts := [], laidByText := true, laidKinds := [.data, .data, .data, .data, .sentinel, .sentinel, .pinned], laidTests := true, laidLooks := .later }
def ConvolveMomentsCardSaid : Prop := Claim7.holds Tryz.pinned (.plain (OpenSpec.ofChange convolveMomentsSpec)) convolveMomentsCard

/-- THE TIED CARD OF 'metrolablaw27.ConvolveBounds'. -/
def convolveBoundsCard : Claim7 := { stood := { row := convolveBoundsRow, standIns := [], harness := (true, "f636447ea2cdb031c1770ebbd2d4b2c4974910b083154afd3138540b863d1673"), looks := true }, kinds := [], alts := [], laidByText := true, laidKinds := [.data, .data, .data, .data, .sentinel, .sentinel, .pinned], laidTests := true, laidLooks := .later }
def ConvolveBoundsCardSaid : Prop := Claim7.holds Tryz.pinned (.plain (OpenSpec.ofChange convolveBoundsSpec)) convolveBoundsCard

/-- THE TIED CARD OF 'metrolablaw27.ConvolveAttains'. -/
def convolveAttainsCard : Claim7 := { stood := { row := convolveAttainsRow, standIns := [], harness := (true, "f636447ea2cdb031c1770ebbd2d4b2c4974910b083154afd3138540b863d1673"), looks := true }, kinds := [], alts := [], laidByText := true, laidKinds := [.data, .data, .data, .data, .sentinel, .sentinel, .pinned], laidTests := true, laidLooks := .later }
def ConvolveAttainsCardSaid : Prop := Claim7.holds Tryz.pinned (.plain (OpenSpec.ofChange convolveAttainsSpec)) convolveAttainsCard

/-- THE TIED CARD OF 'metrolablaw27.ConvolvePairs'. -/
def convolvePairsCard : Claim7 := { stood := { row := convolvePairsRow, standIns := [], harness := (true, "f636447ea2cdb031c1770ebbd2d4b2c4974910b083154afd3138540b863d1673"), looks := true }, kinds := [], alts := [], laidByText := true, laidKinds := [.data, .data, .data, .data, .sentinel, .sentinel, .pinned], laidTests := true, laidLooks := .later }
def ConvolvePairsCardSaid : Prop := Claim7.holds Tryz.pinned (.plain (OpenSpec.ofChange convolvePairsSpec)) convolvePairsCard

/-- THE TIED CARD OF 'metrolablaw27.ConvolveTurns'. -/
def convolveTurnsCard : Claim7 := { stood := { row := convolveTurnsRow, standIns := [], harness := (true, "f636447ea2cdb031c1770ebbd2d4b2c4974910b083154afd3138540b863d1673"), looks := true }, kinds := [], alts := [], laidByText := true, laidKinds := [.data, .data, .data, .data, .sentinel, .sentinel, .pinned], laidTests := true, laidLooks := .later }
def ConvolveTurnsCardSaid : Prop := Claim7.holds Tryz.pinned (.plain (OpenSpec.ofChange convolveTurnsSpec)) convolveTurnsCard

/-- THE TIED CARD OF 'metrolabtop.TopSeriesCapable'. -/
def topSeriesCapableCard : Claim7 := { stood := { row := topSeriesCapableRow, standIns := [], harness := (true, "f636447ea2cdb031c1770ebbd2d4b2c4974910b083154afd3138540b863d1673"), looks := true }, kinds := [], alts := [], laidByText := true, laidKinds := [.data, .data, .data, .data, .sentinel, .sentinel, .pinned], laidTests := true, laidLooks := .later }
def TopSeriesCapableCardSaid : Prop := Claim7.holds Tryz.pinned (.plain (OpenSpec.ofChange topSeriesCapableSpec)) topSeriesCapableCard

/-- THE TIED CARD OF 'metrolabtop.TopSeriesMoments'. -/
def topSeriesMomentsCard : Claim7 := { stood := { row := topSeriesMomentsRow, standIns := [], harness := (true, "f636447ea2cdb031c1770ebbd2d4b2c4974910b083154afd3138540b863d1673"), looks := true }, kinds := [], alts := [], laidByText := true, laidKinds := [.data, .data, .data, .data, .sentinel, .sentinel, .pinned], laidTests := true, laidLooks := .later }
def TopSeriesMomentsCardSaid : Prop := Claim7.holds Tryz.pinned (.plain (OpenSpec.ofChange topSeriesMomentsSpec)) topSeriesMomentsCard

/-- THE TIED CARD OF 'metrolabtop.TopSeriesCounts'. -/
def topSeriesCountsCard : Claim7 := { stood := { row := topSeriesCountsRow, standIns := [], harness := (true, "f636447ea2cdb031c1770ebbd2d4b2c4974910b083154afd3138540b863d1673"), looks := true }, kinds := [], alts := [], laidByText := true, laidKinds := [.data, .data, .data, .data, .sentinel, .sentinel, .pinned], laidTests := true, laidLooks := .later }
def TopSeriesCountsCardSaid : Prop := Claim7.holds Tryz.pinned (.plain (OpenSpec.ofChange topSeriesCountsSpec)) topSeriesCountsCard

/-- THE SECOND FORM's CARD OF 'metrolablaw27.ConvolveStacks'. -/
def convolveStacksUptoCard : Claim7 := { stood := { row := convolveStacksUptoRow, standIns := [], harness := (true, "f636447ea2cdb031c1770ebbd2d4b2c4974910b083154afd3138540b863d1673"), looks := true }, kinds := [], alts := [], laidByText := true, laidKinds := [.data, .data, .data, .data, .sentinel, .sentinel, .pinned], laidTests := true, laidLooks := .later }
def ConvolveStacksUptoCardSaid : Prop := Claim7.holds Tryz.pinned (.plain (OpenSpec.upto convolveStacksSpec)) convolveStacksUptoCard

/-- THE SECOND FORM's CARD OF 'metrolablaw27.ConvolveParts'. -/
def convolvePartsUptoCard : Claim7 := { stood := { row := convolvePartsUptoRow, standIns := [], harness := (true, "f636447ea2cdb031c1770ebbd2d4b2c4974910b083154afd3138540b863d1673"), looks := true }, kinds := [], alts := [], laidByText := true, laidKinds := [.data, .data, .data, .data, .sentinel, .sentinel, .pinned], laidTests := true, laidLooks := .later }
def ConvolvePartsUptoCardSaid : Prop := Claim7.holds Tryz.pinned (.plain (OpenSpec.upto convolvePartsSpec)) convolvePartsUptoCard

/-- THE SECOND FORM's CARD OF 'metrolablaw27.ConvolveShortens'. -/
def convolveShortensUptoCard : Claim7 := { stood := { row := convolveShortensUptoRow, standIns := [], harness := (true, "f636447ea2cdb031c1770ebbd2d4b2c4974910b083154afd3138540b863d1673"), looks := true }, kinds := [], alts := [], laidByText := true, laidKinds := [.data, .data, .data, .data, .sentinel, .sentinel, .pinned], laidTests := true, laidLooks := .later }
def ConvolveShortensUptoCardSaid : Prop := Claim7.holds Tryz.pinned (.plain (OpenSpec.upto convolveShortensSpec)) convolveShortensUptoCard

/-- THE SECOND FORM's CARD OF 'metrolablaw27.ConvolveMoments'. -/
def convolveMomentsUptoCard : Claim7 := { stood := { row := convolveMomentsUptoRow, standIns := [], harness := (true, "f636447ea2cdb031c1770ebbd2d4b2c4974910b083154afd3138540b863d1673"), looks := true }, kinds := [], alts := [], laidByText := true, laidKinds := [.data, .data, .data, .data, .sentinel, .sentinel, .pinned], laidTests := true, laidLooks := .later }
def ConvolveMomentsUptoCardSaid : Prop := Claim7.holds Tryz.pinned (.plain (OpenSpec.upto convolveMomentsSpec)) convolveMomentsUptoCard

/-- THE SECOND FORM's CARD OF 'metrolablaw27.ConvolveBounds'. -/
def convolveBoundsUptoCard : Claim7 := { stood := { row := convolveBoundsUptoRow, standIns := [], harness := (true, "f636447ea2cdb031c1770ebbd2d4b2c4974910b083154afd3138540b863d1673"), looks := true }, kinds := [], alts := [], laidByText := true, laidKinds := [.data, .data, .data, .data, .sentinel, .sentinel, .pinned], laidTests := true, laidLooks := .later }
def ConvolveBoundsUptoCardSaid : Prop := Claim7.holds Tryz.pinned (.plain (OpenSpec.upto convolveBoundsSpec)) convolveBoundsUptoCard

/-- THE SECOND FORM's CARD OF 'metrolablaw27.ConvolveAttains'. -/
def convolveAttainsUptoCard : Claim7 := { stood := { row := convolveAttainsUptoRow, standIns := [], harness := (true, "f636447ea2cdb031c1770ebbd2d4b2c4974910b083154afd3138540b863d1673"), looks := true }, kinds := [], alts := [], laidByText := true, laidKinds := [.data, .data, .data, .data, .sentinel, .sentinel, .pinned], laidTests := true, laidLooks := .later }
def ConvolveAttainsUptoCardSaid : Prop := Claim7.holds Tryz.pinned (.plain (OpenSpec.upto convolveAttainsSpec)) convolveAttainsUptoCard

/-- THE SECOND FORM's CARD OF 'metrolablaw27.ConvolvePairs'. -/
def convolvePairsUptoCard : Claim7 := { stood := { row := convolvePairsUptoRow, standIns := [], harness := (true, "f636447ea2cdb031c1770ebbd2d4b2c4974910b083154afd3138540b863d1673"), looks := true }, kinds := [], alts := [], laidByText := true, laidKinds := [.data, .data, .data, .data, .sentinel, .sentinel, .pinned], laidTests := true, laidLooks := .later }
def ConvolvePairsUptoCardSaid : Prop := Claim7.holds Tryz.pinned (.plain (OpenSpec.upto convolvePairsSpec)) convolvePairsUptoCard

/-- THE SECOND FORM's CARD OF 'metrolablaw27.ConvolveTurns'. -/
def convolveTurnsUptoCard : Claim7 := { stood := { row := convolveTurnsUptoRow, standIns := [], harness := (true, "f636447ea2cdb031c1770ebbd2d4b2c4974910b083154afd3138540b863d1673"), looks := true }, kinds := [], alts := [], laidByText := true, laidKinds := [.data, .data, .data, .data, .sentinel, .sentinel, .pinned], laidTests := true, laidLooks := .later }
def ConvolveTurnsUptoCardSaid : Prop := Claim7.holds Tryz.pinned (.plain (OpenSpec.upto convolveTurnsSpec)) convolveTurnsUptoCard

/-- THE SECOND FORM's CARD OF 'metrolabtop.TopSeriesCapable'. -/
def topSeriesCapableUptoCard : Claim7 := { stood := { row := topSeriesCapableUptoRow, standIns := [], harness := (true, "f636447ea2cdb031c1770ebbd2d4b2c4974910b083154afd3138540b863d1673"), looks := true }, kinds := [], alts := [], laidByText := true, laidKinds := [.data, .data, .data, .data, .sentinel, .sentinel, .pinned], laidTests := true, laidLooks := .later }
def TopSeriesCapableUptoCardSaid : Prop := Claim7.holds Tryz.pinned (.plain (OpenSpec.upto topSeriesCapableSpec)) topSeriesCapableUptoCard

/-- THE SECOND FORM's CARD OF 'metrolabtop.TopSeriesMoments'. -/
def topSeriesMomentsUptoCard : Claim7 := { stood := { row := topSeriesMomentsUptoRow, standIns := [], harness := (true, "f636447ea2cdb031c1770ebbd2d4b2c4974910b083154afd3138540b863d1673"), looks := true }, kinds := [], alts := [], laidByText := true, laidKinds := [.data, .data, .data, .data, .sentinel, .sentinel, .pinned], laidTests := true, laidLooks := .later }
def TopSeriesMomentsUptoCardSaid : Prop := Claim7.holds Tryz.pinned (.plain (OpenSpec.upto topSeriesMomentsSpec)) topSeriesMomentsUptoCard

/-- THE SECOND FORM's CARD OF 'metrolabtop.TopSeriesCounts'. -/
def topSeriesCountsUptoCard : Claim7 := { stood := { row := topSeriesCountsUptoRow, standIns := [], harness := (true, "f636447ea2cdb031c1770ebbd2d4b2c4974910b083154afd3138540b863d1673"), looks := true }, kinds := [], alts := [], laidByText := true, laidKinds := [.data, .data, .data, .data, .sentinel, .sentinel, .pinned], laidTests := true, laidLooks := .later }
def TopSeriesCountsUptoCardSaid : Prop := Claim7.holds Tryz.pinned (.plain (OpenSpec.upto topSeriesCountsSpec)) topSeriesCountsUptoCard
end Rows
end Go.Proofs.YtcmhompbdanpdaaGreatDoor
