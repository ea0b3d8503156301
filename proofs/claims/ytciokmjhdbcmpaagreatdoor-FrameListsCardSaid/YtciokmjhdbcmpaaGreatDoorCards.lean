/-
  DERIVED. GIVEN WITH THE SEED: THE CARDS: each row of YtciokmjhdbcmpaaGreatDoorRows.lean that lists a variable, with what it lists TIED to the program's text (the seventh form; the later family's looks); each row that meets fmt, with fmt's text TOLD by the authors' own Lean function (tested against real Go, not proved from fmt's source: count such statements apart). THE CARD IS WHAT COUNTS. Prove the row's statement (the work); the ties are given (YtciokmjhdbcmpaaGreatDoorTie.lean); close each card by the builder's one call (the guide's Derived/Test/ToyasCard.lean, 'card_holds'). Laid BY PROGRAM, IN A SANDBOX (cutbox-door.mjs). By AI agents, Wed Nov 11 2026. No macro, syntax, notation, axiom, sorry.
-/
import Derived.Test.YtciokmjhdbcmpaaGreatDoorRows
import GoSem.ClaimSeven
namespace Go.Proofs.YtciokmjhdbcmpaaGreatDoor
namespace Rows

/-- THE TIED CARD OF 'metrolablaw19.FrameChecks'. -/
def frameChecksCard : Claim7 := { stood := { row := frameChecksRow, standIns := [], harness := (true, "1b45cb4ffa796212df21e3811f9bf7f75635a239d63b8ea484bfab3bbe9bda4f"), looks := true }, kinds := [], alts := [], laidByText := true, laidKinds := [.data, .data, .data, .data, .sentinel, .sentinel, .pinned], laidTests := true, laidLooks := .later }
def FrameChecksCardSaid : Prop := Claim7.holds Tryz.pinned (.plain (OpenSpec.ofChange frameChecksSpec)) frameChecksCard

/-- THE TIED CARD OF 'metrolablaw19.FrameConditions'. -/
def frameConditionsCard : Claim7 := { stood := { row := frameConditionsRow, standIns := [], harness := (true, "1b45cb4ffa796212df21e3811f9bf7f75635a239d63b8ea484bfab3bbe9bda4f"), looks := true }, kinds := [], alts := [], laidByText := true, laidKinds := [.data, .data, .data, .data, .sentinel, .sentinel, .pinned], laidTests := true, laidLooks := .later }
def FrameConditionsCardSaid : Prop := Claim7.holds Tryz.pinned (.plain (OpenSpec.ofChange frameConditionsSpec)) frameConditionsCard

/-- THE TIED CARD OF 'metrolablaw19.FrameBonuses'. -/
def frameBonusesCard : Claim7 := { stood := { row := frameBonusesRow, standIns := [], harness := (true, "1b45cb4ffa796212df21e3811f9bf7f75635a239d63b8ea484bfab3bbe9bda4f"), looks := true }, kinds := [], alts := [], laidByText := true, laidKinds := [.data, .data, .data, .data, .sentinel, .sentinel, .pinned], laidTests := true, laidLooks := .later }
def FrameBonusesCardSaid : Prop := Claim7.holds Tryz.pinned (.plain (OpenSpec.ofChange frameBonusesSpec)) frameBonusesCard

/-- THE TIED CARD OF 'metrolablaw19.FrameTexts'. -/
def frameTextsCard : Claim7 := { stood := { row := frameTextsRow, standIns := [], harness := (true, "1b45cb4ffa796212df21e3811f9bf7f75635a239d63b8ea484bfab3bbe9bda4f"), looks := true }, kinds := [], alts := [], laidByText := true, laidKinds := [.data, .data, .data, .data, .sentinel, .sentinel, .pinned], laidTests := true, laidLooks := .later }
def FrameTextsCardSaid : Prop := Claim7.holds Tryz.pinned (.plain (OpenSpec.ofChange frameTextsSpec)) frameTextsCard

/-- THE TIED CARD OF 'metrolablaw19.FrameReads'. -/
def frameReadsCard : Claim7 := { stood := { row := frameReadsRow, standIns := [], harness := (true, "1b45cb4ffa796212df21e3811f9bf7f75635a239d63b8ea484bfab3bbe9bda4f"), looks := true }, kinds := [], alts := [], laidByText := true, laidKinds := [.data, .data, .data, .data, .sentinel, .sentinel, .pinned], laidTests := true, laidLooks := .later }
def FrameReadsCardSaid : Prop := Claim7.holds Tryz.pinned (.plain (OpenSpec.ofChange frameReadsSpec)) frameReadsCard

/-- THE TIED CARD OF 'metrolablaw19.FrameLists'. -/
def frameListsCard : Claim7 := { stood := { row := frameListsRow, standIns := [], harness := (true, "1b45cb4ffa796212df21e3811f9bf7f75635a239d63b8ea484bfab3bbe9bda4f"), looks := true }, kinds := [], alts := [], laidByText := true, laidKinds := [.data, .data, .data, .data, .sentinel, .sentinel, .pinned], laidTests := true, laidLooks := .later }
def FrameListsCardSaid : Prop := Claim7.holds Tryz.pinned (.plain (OpenSpec.ofChange frameListsSpec)) frameListsCard

/-- THE TIED CARD OF 'metrolablaw19.FrameOrders'. -/
def frameOrdersCard : Claim7 := { stood := { row := frameOrdersRow, standIns := [], harness := (true, "1b45cb4ffa796212df21e3811f9bf7f75635a239d63b8ea484bfab3bbe9bda4f"), looks := true }, kinds := [], alts := [], laidByText := true, laidKinds := [.data, .data, .data, .data, .sentinel, .sentinel, .pinned], laidTests := true, laidLooks := .later }
def FrameOrdersCardSaid : Prop := Claim7.holds Tryz.pinned (.plain (OpenSpec.ofChange frameOrdersSpec)) frameOrdersCard

/-- THE SECOND FORM's CARD OF 'metrolablaw19.FrameChecks'. -/
def frameChecksUptoCard : Claim7 := { stood := { row := frameChecksUptoRow, standIns := [], harness := (true, "1b45cb4ffa796212df21e3811f9bf7f75635a239d63b8ea484bfab3bbe9bda4f"), looks := true }, kinds := [], alts := [], laidByText := true, laidKinds := [.data, .data, .data, .data, .sentinel, .sentinel, .pinned], laidTests := true, laidLooks := .later }
def FrameChecksUptoCardSaid : Prop := Claim7.holds Tryz.pinned (.plain (OpenSpec.upto frameChecksSpec)) frameChecksUptoCard

/-- THE SECOND FORM's CARD OF 'metrolablaw19.FrameConditions'. -/
def frameConditionsUptoCard : Claim7 := { stood := { row := frameConditionsUptoRow, standIns := [], harness := (true, "1b45cb4ffa796212df21e3811f9bf7f75635a239d63b8ea484bfab3bbe9bda4f"), looks := true }, kinds := [], alts := [], laidByText := true, laidKinds := [.data, .data, .data, .data, .sentinel, .sentinel, .pinned], laidTests := true, laidLooks := .later }
def FrameConditionsUptoCardSaid : Prop := Claim7.holds Tryz.pinned (.plain (OpenSpec.upto frameConditionsSpec)) frameConditionsUptoCard

/-- THE SECOND FORM's CARD OF 'metrolablaw19.FrameBonuses'. -/
def frameBonusesUptoCard : Claim7 := { stood := { row := frameBonusesUptoRow, standIns := [], harness := (true, "1b45cb4ffa796212df21e3811f9bf7f75635a239d63b8ea484bfab3bbe9bda4f"), looks := true }, kinds := [], alts := [], laidByText := true, laidKinds := [.data, .data, .data, .data, .sentinel, .sentinel, .pinned], laidTests := true, laidLooks := .later }
def FrameBonusesUptoCardSaid : Prop := Claim7.holds Tryz.pinned (.plain (OpenSpec.upto frameBonusesSpec)) frameBonusesUptoCard

/-- THE SECOND FORM's CARD OF 'metrolablaw19.FrameTexts'. -/
def frameTextsUptoCard : Claim7 := { stood := { row := frameTextsUptoRow, standIns := [], harness := (true, "1b45cb4ffa796212df21e3811f9bf7f75635a239d63b8ea484bfab3bbe9bda4f"), looks := true }, kinds := [], alts := [], laidByText := true, laidKinds := [.data, .data, .data, .data, .sentinel, .sentinel, .pinned], laidTests := true, laidLooks := .later }
def FrameTextsUptoCardSaid : Prop := Claim7.holds Tryz.pinned (.plain (OpenSpec.upto frameTextsSpec)) frameTextsUptoCard

/-- THE SECOND FORM's CARD OF 'metrolablaw19.FrameReads'. -/
def frameReadsUptoCard : Claim7 := { stood := { row := frameReadsUptoRow, standIns := [], harness := (true, "1b45cb4ffa796212df21e3811f9bf7f75635a239d63b8ea484bfab3bbe9bda4f"), looks := true }, kinds := [], alts := [], laidByText := true, laidKinds := [.data, .data, .data, .data, .sentinel, .sentinel, .pinned], laidTests := true, laidLooks := .later }
def FrameReadsUptoCardSaid : Prop := Claim7.holds Tryz.pinned (.plain (OpenSpec.upto frameReadsSpec)) frameReadsUptoCard

/-- THE SECOND FORM's CARD OF 'metrolablaw19.FrameLists'. -/
def frameListsUptoCard : Claim7 := { stood := { row := frameListsUptoRow, standIns := [], harness := (true, "1b45cb4ffa796212df21e3811f9bf7f75635a239d63b8ea484bfab3bbe9bda4f"), looks := true }, kinds := [], alts := [], laidByText := true, laidKinds := [.data, .data, .data, .data, .sentinel, .sentinel, .pinned], laidTests := true, laidLooks := .later }
def FrameListsUptoCardSaid : Prop := Claim7.holds Tryz.pinned (.plain (OpenSpec.upto frameListsSpec)) frameListsUptoCard

/-- THE SECOND FORM's CARD OF 'metrolablaw19.FrameOrders'. -/
def frameOrdersUptoCard : Claim7 := { stood := { row := frameOrdersUptoRow, standIns := [], harness := (true, "1b45cb4ffa796212df21e3811f9bf7f75635a239d63b8ea484bfab3bbe9bda4f"), looks := true }, kinds := [], alts := [], laidByText := true, laidKinds := [.data, .data, .data, .data, .sentinel, .sentinel, .pinned], laidTests := true, laidLooks := .later }
def FrameOrdersUptoCardSaid : Prop := Claim7.holds Tryz.pinned (.plain (OpenSpec.upto frameOrdersSpec)) frameOrdersUptoCard
end Rows
end Go.Proofs.YtciokmjhdbcmpaaGreatDoor
