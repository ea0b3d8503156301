/-
  DERIVED. GIVEN WITH THE SEED: THE CARDS: each row of YteoniejpfmeibaaDoorRows.lean that lists a variable, with what it lists TIED to the program's text (the seventh form; the later family's looks); each row that meets fmt, with fmt's text TOLD by the authors' own Lean function (tested against real Go, not proved from fmt's source: count such statements apart). THE CARD IS WHAT COUNTS. Prove the row's statement (the work); the ties are given (YteoniejpfmeibaaDoorTie.lean); close each card by the builder's one call (the guide's Derived/Test/ToyasCard.lean, 'card_holds'). Laid BY PROGRAM, IN A SANDBOX (cutbox-door.mjs). By AI agents, Wed Nov 11 2026. No macro, syntax, notation, axiom, sorry.
-/
import Derived.Test.YteoniejpfmeibaaDoorRows
import GoSem.ClaimSeven
namespace Go.Proofs.YteoniejpfmeibaaDoor
namespace Rows

/-- THE TIED CARD OF 'metrolablaw51.StockChecks'. -/
def stockChecksCard : Claim7 := { stood := { row := stockChecksRow, standIns := [], harness := (true, "69499d06f72edb67294ee165da589fcc6e01f4a6b193854f3eab6cd273f41cb9"), looks := false }, kinds := [], alts := [], laidByText := true, laidKinds := [.data, .pinned], laidTests := true, laidLooks := .later }
def StockChecksCardSaid : Prop := Claim7.holds Tryd.pinned (.plain (OpenSpec.ofChange stockChecksSpec)) stockChecksCard

/-- THE TIED CARD OF 'metrolablaw51.StockNew'. -/
def stockNewCard : Claim7 := { stood := { row := stockNewRow, standIns := [], harness := (true, "69499d06f72edb67294ee165da589fcc6e01f4a6b193854f3eab6cd273f41cb9"), looks := false }, kinds := [], alts := [], laidByText := true, laidKinds := [.data, .pinned], laidTests := true, laidLooks := .later }
def StockNewCardSaid : Prop := Claim7.holds Tryd.pinned (.plain (OpenSpec.ofChange stockNewSpec)) stockNewCard

/-- THE TIED CARD OF 'metrolablaw51.StockTakes'. -/
def stockTakesCard : Claim7 := { stood := { row := stockTakesRow, standIns := [], harness := (true, "69499d06f72edb67294ee165da589fcc6e01f4a6b193854f3eab6cd273f41cb9"), looks := false }, kinds := [], alts := [], laidByText := true, laidKinds := [.data, .pinned], laidTests := true, laidLooks := .later }
def StockTakesCardSaid : Prop := Claim7.holds Tryd.pinned (.plain (OpenSpec.ofChange stockTakesSpec)) stockTakesCard

/-- THE TIED CARD OF 'metrolablaw51.StockCalibrates'. -/
def stockCalibratesCard : Claim7 := { stood := { row := stockCalibratesRow, standIns := [], harness := (true, "69499d06f72edb67294ee165da589fcc6e01f4a6b193854f3eab6cd273f41cb9"), looks := false }, kinds := [], alts := [], laidByText := true, laidKinds := [.data, .pinned], laidTests := true, laidLooks := .later }
def StockCalibratesCardSaid : Prop := Claim7.holds Tryd.pinned (.plain (OpenSpec.ofChange stockCalibratesSpec)) stockCalibratesCard

/-- THE TIED CARD OF 'metrolablaw51.StockHolds'. -/
def stockHoldsCard : Claim7 := { stood := { row := stockHoldsRow, standIns := [], harness := (true, "69499d06f72edb67294ee165da589fcc6e01f4a6b193854f3eab6cd273f41cb9"), looks := false }, kinds := [], alts := [], laidByText := true, laidKinds := [.data, .pinned], laidTests := true, laidLooks := .later }
def StockHoldsCardSaid : Prop := Claim7.holds Tryd.pinned (.plain (OpenSpec.ofChange stockHoldsSpec)) stockHoldsCard

/-- THE TIED CARD OF 'metrolablaw51.StockReturns'. -/
def stockReturnsCard : Claim7 := { stood := { row := stockReturnsRow, standIns := [], harness := (true, "69499d06f72edb67294ee165da589fcc6e01f4a6b193854f3eab6cd273f41cb9"), looks := false }, kinds := [], alts := [], laidByText := true, laidKinds := [.data, .pinned], laidTests := true, laidLooks := .later }
def StockReturnsCardSaid : Prop := Claim7.holds Tryd.pinned (.plain (OpenSpec.ofChange stockReturnsSpec)) stockReturnsCard

/-- THE TIED CARD OF 'metrolablaw51.StockRetires'. -/
def stockRetiresCard : Claim7 := { stood := { row := stockRetiresRow, standIns := [], harness := (true, "69499d06f72edb67294ee165da589fcc6e01f4a6b193854f3eab6cd273f41cb9"), looks := false }, kinds := [], alts := [], laidByText := true, laidKinds := [.data, .pinned], laidTests := true, laidLooks := .later }
def StockRetiresCardSaid : Prop := Claim7.holds Tryd.pinned (.plain (OpenSpec.ofChange stockRetiresSpec)) stockRetiresCard

/-- THE TIED CARD OF 'metrolablaw51.StockRuns'. -/
def stockRunsCard : Claim7 := { stood := { row := stockRunsRow, standIns := [], harness := (true, "69499d06f72edb67294ee165da589fcc6e01f4a6b193854f3eab6cd273f41cb9"), looks := false }, kinds := [], alts := [], laidByText := true, laidKinds := [.data, .pinned], laidTests := true, laidLooks := .later }
def StockRunsCardSaid : Prop := Claim7.holds Tryd.pinned (.plain (OpenSpec.ofChange stockRunsSpec)) stockRunsCard

/-- THE TIED CARD OF 'metrolablaw51.StockCounts'. -/
def stockCountsCard : Claim7 := { stood := { row := stockCountsRow, standIns := [], harness := (true, "69499d06f72edb67294ee165da589fcc6e01f4a6b193854f3eab6cd273f41cb9"), looks := false }, kinds := [], alts := [], laidByText := true, laidKinds := [.data, .pinned], laidTests := true, laidLooks := .later }
def StockCountsCardSaid : Prop := Claim7.holds Tryd.pinned (.plain (OpenSpec.ofChange stockCountsSpec)) stockCountsCard

/-- THE SECOND FORM's CARD OF 'metrolablaw51.StockChecks'. -/
def stockChecksUptoCard : Claim7 := { stood := { row := stockChecksUptoRow, standIns := [], harness := (true, "69499d06f72edb67294ee165da589fcc6e01f4a6b193854f3eab6cd273f41cb9"), looks := false }, kinds := [], alts := [], laidByText := true, laidKinds := [.data, .pinned], laidTests := true, laidLooks := .later }
def StockChecksUptoCardSaid : Prop := Claim7.holds Tryd.pinned (.plain (OpenSpec.upto stockChecksSpec)) stockChecksUptoCard

/-- THE SECOND FORM's CARD OF 'metrolablaw51.StockNew'. -/
def stockNewUptoCard : Claim7 := { stood := { row := stockNewUptoRow, standIns := [], harness := (true, "69499d06f72edb67294ee165da589fcc6e01f4a6b193854f3eab6cd273f41cb9"), looks := false }, kinds := [], alts := [], laidByText := true, laidKinds := [.data, .pinned], laidTests := true, laidLooks := .later }
def StockNewUptoCardSaid : Prop := Claim7.holds Tryd.pinned (.plain (OpenSpec.upto stockNewSpec)) stockNewUptoCard

/-- THE SECOND FORM's CARD OF 'metrolablaw51.StockTakes'. -/
def stockTakesUptoCard : Claim7 := { stood := { row := stockTakesUptoRow, standIns := [], harness := (true, "69499d06f72edb67294ee165da589fcc6e01f4a6b193854f3eab6cd273f41cb9"), looks := false }, kinds := [], alts := [], laidByText := true, laidKinds := [.data, .pinned], laidTests := true, laidLooks := .later }
def StockTakesUptoCardSaid : Prop := Claim7.holds Tryd.pinned (.plain (OpenSpec.upto stockTakesSpec)) stockTakesUptoCard

/-- THE SECOND FORM's CARD OF 'metrolablaw51.StockCalibrates'. -/
def stockCalibratesUptoCard : Claim7 := { stood := { row := stockCalibratesUptoRow, standIns := [], harness := (true, "69499d06f72edb67294ee165da589fcc6e01f4a6b193854f3eab6cd273f41cb9"), looks := false }, kinds := [], alts := [], laidByText := true, laidKinds := [.data, .pinned], laidTests := true, laidLooks := .later }
def StockCalibratesUptoCardSaid : Prop := Claim7.holds Tryd.pinned (.plain (OpenSpec.upto stockCalibratesSpec)) stockCalibratesUptoCard

/-- THE SECOND FORM's CARD OF 'metrolablaw51.StockHolds'. -/
def stockHoldsUptoCard : Claim7 := { stood := { row := stockHoldsUptoRow, standIns := [], harness := (true, "69499d06f72edb67294ee165da589fcc6e01f4a6b193854f3eab6cd273f41cb9"), looks := false }, kinds := [], alts := [], laidByText := true, laidKinds := [.data, .pinned], laidTests := true, laidLooks := .later }
def StockHoldsUptoCardSaid : Prop := Claim7.holds Tryd.pinned (.plain (OpenSpec.upto stockHoldsSpec)) stockHoldsUptoCard

/-- THE SECOND FORM's CARD OF 'metrolablaw51.StockReturns'. -/
def stockReturnsUptoCard : Claim7 := { stood := { row := stockReturnsUptoRow, standIns := [], harness := (true, "69499d06f72edb67294ee165da589fcc6e01f4a6b193854f3eab6cd273f41cb9"), looks := false }, kinds := [], alts := [], laidByText := true, laidKinds := [.data, .pinned], laidTests := true, laidLooks := .later }
def StockReturnsUptoCardSaid : Prop := Claim7.holds Tryd.pinned (.plain (OpenSpec.upto stockReturnsSpec)) stockReturnsUptoCard

/-- THE SECOND FORM's CARD OF 'metrolablaw51.StockRetires'. -/
def stockRetiresUptoCard : Claim7 := { stood := { row := stockRetiresUptoRow, standIns := [], harness := (true, "69499d06f72edb67294ee165da589fcc6e01f4a6b193854f3eab6cd273f41cb9"), looks := false }, kinds := [], alts := [], laidByText := true, laidKinds := [.data, .pinned], laidTests := true, laidLooks := .later }
def StockRetiresUptoCardSaid : Prop := Claim7.holds Tryd.pinned (.plain (OpenSpec.upto stockRetiresSpec)) stockRetiresUptoCard

/-- THE SECOND FORM's CARD OF 'metrolablaw51.StockRuns'. -/
def stockRunsUptoCard : Claim7 := { stood := { row := stockRunsUptoRow, standIns := [], harness := (true, "69499d06f72edb67294ee165da589fcc6e01f4a6b193854f3eab6cd273f41cb9"), looks := false }, kinds := [], alts := [], laidByText := true, laidKinds := [.data, .pinned], laidTests := true, laidLooks := .later }
def StockRunsUptoCardSaid : Prop := Claim7.holds Tryd.pinned (.plain (OpenSpec.upto stockRunsSpec)) stockRunsUptoCard

/-- THE SECOND FORM's CARD OF 'metrolablaw51.StockCounts'. -/
def stockCountsUptoCard : Claim7 := { stood := { row := stockCountsUptoRow, standIns := [], harness := (true, "69499d06f72edb67294ee165da589fcc6e01f4a6b193854f3eab6cd273f41cb9"), looks := false }, kinds := [], alts := [], laidByText := true, laidKinds := [.data, .pinned], laidTests := true, laidLooks := .later }
def StockCountsUptoCardSaid : Prop := Claim7.holds Tryd.pinned (.plain (OpenSpec.upto stockCountsSpec)) stockCountsUptoCard
end Rows
end Go.Proofs.YteoniejpfmeibaaDoor
