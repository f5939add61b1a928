/-
  DERIVED. GIVEN WITH THE SEED: THE CARDS: each row of YtjifancgekoenaaGreatDoorRows.lean that lists a variable, with what it lists TIED to the program's text (the seventh form; the later family's looks); each row that meets fmt, with fmt's text TOLD by the authors' own Lean function (tested against real Go, not proved from fmt's source: count such statements apart). THE CARD IS WHAT COUNTS. Prove the row's statement (the work); the ties are given (YtjifancgekoenaaGreatDoorTie.lean); close each card by the builder's one call (the guide's Derived/Test/ToyasCard.lean, 'card_holds'). Laid BY PROGRAM, IN A SANDBOX (cutbox-door.mjs). By AI agents, Wed Nov 11 2026. No macro, syntax, notation, axiom, sorry.
-/
import Derived.Test.YtjifancgekoenaaGreatDoorRows
import GoSem.ClaimSeven
namespace Go.Proofs.YtjifancgekoenaaGreatDoor
namespace Rows

/-- THE TIED CARD OF 'whetstonelaw13.CnfTurned'. -/
def cnfTurnedCard : Claim7 := { stood := { row := cnfTurnedRow, standIns := [], harness := (true, "00c87c8454df4b0a7596bd27522c10636831db52fe079591c8b2e756e6e4130d"), looks := true }, kinds := [], alts := [], laidByText := true, laidKinds := [.data, .data, .data, .sentinel, .sentinel, .listed, .data], laidTests := true, laidLooks := .later }
def CnfTurnedCardSaid : Prop := Claim7.holds Tryz.pinned (.plain (OpenSpec.ofChange cnfTurnedSpec)) cnfTurnedCard

/-- THE TIED CARD OF 'whetstonelaw13.CnfJoins'. -/
def cnfJoinsCard : Claim7 := { stood := { row := cnfJoinsRow, standIns := [], harness := (true, "00c87c8454df4b0a7596bd27522c10636831db52fe079591c8b2e756e6e4130d"), looks := true }, kinds := [], alts := [], laidByText := true, laidKinds := [.data, .data, .data, .sentinel, .sentinel, .listed, .data], laidTests := true, laidLooks := .later }
def CnfJoinsCardSaid : Prop := Claim7.holds Tryz.pinned (.plain (OpenSpec.ofChange cnfJoinsSpec)) cnfJoinsCard

/-- THE TIED CARD OF 'whetstonelaw13.CnfChecks'. -/
def cnfChecksCard : Claim7 := { stood := { row := cnfChecksRow, standIns := [], harness := (true, "00c87c8454df4b0a7596bd27522c10636831db52fe079591c8b2e756e6e4130d"), looks := true }, kinds := [], alts := [], laidByText := true, laidKinds := [.data, .data, .data, .sentinel, .sentinel, .listed, .data], laidTests := true, laidLooks := .later }
def CnfChecksCardSaid : Prop := Claim7.holds Tryz.pinned (.plain (OpenSpec.ofChange cnfChecksSpec)) cnfChecksCard

/-- THE TIED CARD OF 'whetstonelaw13.CnfPrints'. -/
def cnfPrintsCard : Claim7 := { stood := { row := cnfPrintsRow, standIns := [], harness := (true, "00c87c8454df4b0a7596bd27522c10636831db52fe079591c8b2e756e6e4130d"), looks := true }, kinds := [], alts := [], laidByText := true, laidKinds := [.data, .data, .data, .sentinel, .sentinel, .listed, .data], laidTests := true, laidLooks := .later }
def CnfPrintsCardSaid : Prop := Claim7.holds Tryz.pinned (.plain (OpenSpec.ofChange cnfPrintsSpec)) cnfPrintsCard

/-- THE TIED CARD OF 'whetstonelaw13.CnfBack'. -/
def cnfBackCard : Claim7 := { stood := { row := cnfBackRow, standIns := [], harness := (true, "00c87c8454df4b0a7596bd27522c10636831db52fe079591c8b2e756e6e4130d"), looks := true }, kinds := [], alts := [], laidByText := true, laidKinds := [.data, .data, .data, .sentinel, .sentinel, .listed, .data], laidTests := true, laidLooks := .later }
def CnfBackCardSaid : Prop := Claim7.holds Tryz.pinned (.plain (OpenSpec.ofChange cnfBackSpec)) cnfBackCard

/-- THE TIED CARD OF 'whetstonelaw13.CnfOrders'. -/
def cnfOrdersCard : Claim7 := { stood := { row := cnfOrdersRow, standIns := [], harness := (true, "00c87c8454df4b0a7596bd27522c10636831db52fe079591c8b2e756e6e4130d"), looks := true }, kinds := [], alts := [], laidByText := true, laidKinds := [.data, .data, .data, .sentinel, .sentinel, .listed, .data], laidTests := true, laidLooks := .later }
def CnfOrdersCardSaid : Prop := Claim7.holds Tryz.pinned (.plain (OpenSpec.ofChange cnfOrdersSpec)) cnfOrdersCard

/-- THE TIED CARD OF 'whetstonelaw13.CnfWhole'. -/
def cnfWholeCard : Claim7 := { stood := { row := cnfWholeRow, standIns := [], harness := (true, "00c87c8454df4b0a7596bd27522c10636831db52fe079591c8b2e756e6e4130d"), looks := true }, kinds := [], alts := [], laidByText := true, laidKinds := [.data, .data, .data, .sentinel, .sentinel, .listed, .data], laidTests := true, laidLooks := .later }
def CnfWholeCardSaid : Prop := Claim7.holds Tryz.pinned (.plain (OpenSpec.ofChange cnfWholeSpec)) cnfWholeCard

/-- THE SECOND FORM's CARD OF 'whetstonelaw13.CnfTurned'. -/
def cnfTurnedUptoCard : Claim7 := { stood := { row := cnfTurnedUptoRow, standIns := [], harness := (true, "00c87c8454df4b0a7596bd27522c10636831db52fe079591c8b2e756e6e4130d"), looks := true }, kinds := [], alts := [], laidByText := true, laidKinds := [.data, .data, .data, .sentinel, .sentinel, .listed, .data], laidTests := true, laidLooks := .later }
def CnfTurnedUptoCardSaid : Prop := Claim7.holds Tryz.pinned (.plain (OpenSpec.upto cnfTurnedSpec)) cnfTurnedUptoCard

/-- THE SECOND FORM's CARD OF 'whetstonelaw13.CnfJoins'. -/
def cnfJoinsUptoCard : Claim7 := { stood := { row := cnfJoinsUptoRow, standIns := [], harness := (true, "00c87c8454df4b0a7596bd27522c10636831db52fe079591c8b2e756e6e4130d"), looks := true }, kinds := [], alts := [], laidByText := true, laidKinds := [.data, .data, .data, .sentinel, .sentinel, .listed, .data], laidTests := true, laidLooks := .later }
def CnfJoinsUptoCardSaid : Prop := Claim7.holds Tryz.pinned (.plain (OpenSpec.upto cnfJoinsSpec)) cnfJoinsUptoCard

/-- THE SECOND FORM's CARD OF 'whetstonelaw13.CnfChecks'. -/
def cnfChecksUptoCard : Claim7 := { stood := { row := cnfChecksUptoRow, standIns := [], harness := (true, "00c87c8454df4b0a7596bd27522c10636831db52fe079591c8b2e756e6e4130d"), looks := true }, kinds := [], alts := [], laidByText := true, laidKinds := [.data, .data, .data, .sentinel, .sentinel, .listed, .data], laidTests := true, laidLooks := .later }
def CnfChecksUptoCardSaid : Prop := Claim7.holds Tryz.pinned (.plain (OpenSpec.upto cnfChecksSpec)) cnfChecksUptoCard

/-- THE SECOND FORM's CARD OF 'whetstonelaw13.CnfPrints'. -/
def cnfPrintsUptoCard : Claim7 := { stood := { row := cnfPrintsUptoRow, standIns := [], harness := (true, "00c87c8454df4b0a7596bd27522c10636831db52fe079591c8b2e756e6e4130d"), looks := true }, kinds := [], alts := [], laidByText := true, laidKinds := [.data, .data, .data, .sentinel, .sentinel, .listed, .data], laidTests := true, laidLooks := .later }
def CnfPrintsUptoCardSaid : Prop := Claim7.holds Tryz.pinned (.plain (OpenSpec.upto cnfPrintsSpec)) cnfPrintsUptoCard

/-- THE SECOND FORM's CARD OF 'whetstonelaw13.CnfBack'. -/
def cnfBackUptoCard : Claim7 := { stood := { row := cnfBackUptoRow, standIns := [], harness := (true, "00c87c8454df4b0a7596bd27522c10636831db52fe079591c8b2e756e6e4130d"), looks := true }, kinds := [], alts := [], laidByText := true, laidKinds := [.data, .data, .data, .sentinel, .sentinel, .listed, .data], laidTests := true, laidLooks := .later }
def CnfBackUptoCardSaid : Prop := Claim7.holds Tryz.pinned (.plain (OpenSpec.upto cnfBackSpec)) cnfBackUptoCard

/-- THE SECOND FORM's CARD OF 'whetstonelaw13.CnfOrders'. -/
def cnfOrdersUptoCard : Claim7 := { stood := { row := cnfOrdersUptoRow, standIns := [], harness := (true, "00c87c8454df4b0a7596bd27522c10636831db52fe079591c8b2e756e6e4130d"), looks := true }, kinds := [], alts := [], laidByText := true, laidKinds := [.data, .data, .data, .sentinel, .sentinel, .listed, .data], laidTests := true, laidLooks := .later }
def CnfOrdersUptoCardSaid : Prop := Claim7.holds Tryz.pinned (.plain (OpenSpec.upto cnfOrdersSpec)) cnfOrdersUptoCard

/-- THE SECOND FORM's CARD OF 'whetstonelaw13.CnfWhole'. -/
def cnfWholeUptoCard : Claim7 := { stood := { row := cnfWholeUptoRow, standIns := [], harness := (true, "00c87c8454df4b0a7596bd27522c10636831db52fe079591c8b2e756e6e4130d"), looks := true }, kinds := [], alts := [], laidByText := true, laidKinds := [.data, .data, .data, .sentinel, .sentinel, .listed, .data], laidTests := true, laidLooks := .later }
def CnfWholeUptoCardSaid : Prop := Claim7.holds Tryz.pinned (.plain (OpenSpec.upto cnfWholeSpec)) cnfWholeUptoCard
end Rows
end Go.Proofs.YtjifancgekoenaaGreatDoor
