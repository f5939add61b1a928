/-
  DERIVED. GIVEN WITH THE SEED: THE CARDS: each row of YtdgkbigmdadlaaaDoorRows.lean that lists a variable, with what it lists TIED to the program's text (the seventh form; the later family's looks); each row that meets fmt, with fmt's text TOLD by the authors' own Lean function (tested against real Go, not proved from fmt's source: count such statements apart). THE CARD IS WHAT COUNTS. Prove the row's statement (the work); the ties are given (YtdgkbigmdadlaaaDoorTie.lean); close each card by the builder's one call (the guide's Derived/Test/ToyasCard.lean, 'card_holds'). Laid BY PROGRAM, IN A SANDBOX (cutbox-door.mjs). By AI agents, Wed Nov 11 2026. No macro, syntax, notation, axiom, sorry.
-/
import Derived.Test.YtdgkbigmdadlaaaDoorRows
import GoSem.ClaimSeven
namespace Go.Proofs.YtdgkbigmdadlaaaDoor
namespace Rows

/-- THE TIED CARD OF 'whetstonelaw05.AsmPrints'. -/
def asmPrintsCard : Claim7 := { stood := { row := asmPrintsRow, standIns := [], harness := (true, "0a882fba12b872cd72f6a3946835a94f6e4322f342c4a7403de17723e92523d1"), looks := true }, kinds := [], alts := [], laidByText := true, laidKinds := [.data, .data, .data, .data, .sentinel, .sentinel, .pinned], laidTests := true, laidLooks := .later }
def AsmPrintsCardSaid : Prop := Claim7.holds Tryd.pinned (.plain (OpenSpec.ofChange asmPrintsSpec)) asmPrintsCard

/-- THE TIED CARD OF 'whetstonelaw05.AsmBack'. -/
def asmBackCard : Claim7 := { stood := { row := asmBackRow, standIns := [], harness := (true, "0a882fba12b872cd72f6a3946835a94f6e4322f342c4a7403de17723e92523d1"), looks := true }, kinds := [], alts := [], laidByText := true, laidKinds := [.data, .data, .data, .data, .sentinel, .sentinel, .pinned], laidTests := true, laidLooks := .later }
def AsmBackCardSaid : Prop := Claim7.holds Tryd.pinned (.plain (OpenSpec.ofChange asmBackSpec)) asmBackCard

/-- THE TIED CARD OF 'whetstonelaw05.AsmNames'. -/
def asmNamesCard : Claim7 := { stood := { row := asmNamesRow, standIns := [], harness := (true, "0a882fba12b872cd72f6a3946835a94f6e4322f342c4a7403de17723e92523d1"), looks := true }, kinds := [], alts := [], laidByText := true, laidKinds := [.data, .data, .data, .data, .sentinel, .sentinel, .pinned], laidTests := true, laidLooks := .later }
def AsmNamesCardSaid : Prop := Claim7.holds Tryd.pinned (.plain (OpenSpec.ofChange asmNamesSpec)) asmNamesCard

/-- THE TIED CARD OF 'whetstonelaw05.AsmOther'. -/
def asmOtherCard : Claim7 := { stood := { row := asmOtherRow, standIns := [], harness := (true, "0a882fba12b872cd72f6a3946835a94f6e4322f342c4a7403de17723e92523d1"), looks := true }, kinds := [], alts := [], laidByText := true, laidKinds := [.data, .data, .data, .data, .sentinel, .sentinel, .pinned], laidTests := true, laidLooks := .later }
def AsmOtherCardSaid : Prop := Claim7.holds Tryd.pinned (.plain (OpenSpec.ofChange asmOtherSpec)) asmOtherCard

/-- THE TIED CARD OF 'whetstonelaw05.AsmWhole'. -/
def asmWholeCard : Claim7 := { stood := { row := asmWholeRow, standIns := [], harness := (true, "0a882fba12b872cd72f6a3946835a94f6e4322f342c4a7403de17723e92523d1"), looks := true }, kinds := [], alts := [], laidByText := true, laidKinds := [.data, .data, .data, .data, .sentinel, .sentinel, .pinned], laidTests := true, laidLooks := .later }
def AsmWholeCardSaid : Prop := Claim7.holds Tryd.pinned (.plain (OpenSpec.ofChange asmWholeSpec)) asmWholeCard

/-- THE TIED CARD OF 'whetstonelaw05.AsmRows'. -/
def asmRowsCard : Claim7 := { stood := { row := asmRowsRow, standIns := [], harness := (true, "0a882fba12b872cd72f6a3946835a94f6e4322f342c4a7403de17723e92523d1"), looks := true }, kinds := [], alts := [], laidByText := true, laidKinds := [.data, .data, .data, .data, .sentinel, .sentinel, .pinned], laidTests := true, laidLooks := .later }
def AsmRowsCardSaid : Prop := Claim7.holds Tryd.pinned (.plain (OpenSpec.ofChange asmRowsSpec)) asmRowsCard

/-- THE SECOND FORM's CARD OF 'whetstonelaw05.AsmPrints'. -/
def asmPrintsUptoCard : Claim7 := { stood := { row := asmPrintsUptoRow, standIns := [], harness := (true, "0a882fba12b872cd72f6a3946835a94f6e4322f342c4a7403de17723e92523d1"), looks := true }, kinds := [], alts := [], laidByText := true, laidKinds := [.data, .data, .data, .data, .sentinel, .sentinel, .pinned], laidTests := true, laidLooks := .later }
def AsmPrintsUptoCardSaid : Prop := Claim7.holds Tryd.pinned (.plain (OpenSpec.upto asmPrintsSpec)) asmPrintsUptoCard

/-- THE SECOND FORM's CARD OF 'whetstonelaw05.AsmBack'. -/
def asmBackUptoCard : Claim7 := { stood := { row := asmBackUptoRow, standIns := [], harness := (true, "0a882fba12b872cd72f6a3946835a94f6e4322f342c4a7403de17723e92523d1"), looks := true }, kinds := [], alts := [], laidByText := true, laidKinds := [.data, .data, .data, .data, .sentinel, .sentinel, .pinned], laidTests := true, laidLooks := .later }
def AsmBackUptoCardSaid : Prop := Claim7.holds Tryd.pinned (.plain (OpenSpec.upto asmBackSpec)) asmBackUptoCard

/-- THE SECOND FORM's CARD OF 'whetstonelaw05.AsmNames'. -/
def asmNamesUptoCard : Claim7 := { stood := { row := asmNamesUptoRow, standIns := [], harness := (true, "0a882fba12b872cd72f6a3946835a94f6e4322f342c4a7403de17723e92523d1"), looks := true }, kinds := [], alts := [], laidByText := true, laidKinds := [.data, .data, .data, .data, .sentinel, .sentinel, .pinned], laidTests := true, laidLooks := .later }
def AsmNamesUptoCardSaid : Prop := Claim7.holds Tryd.pinned (.plain (OpenSpec.upto asmNamesSpec)) asmNamesUptoCard

/-- THE SECOND FORM's CARD OF 'whetstonelaw05.AsmOther'. -/
def asmOtherUptoCard : Claim7 := { stood := { row := asmOtherUptoRow, standIns := [], harness := (true, "0a882fba12b872cd72f6a3946835a94f6e4322f342c4a7403de17723e92523d1"), looks := true }, kinds := [], alts := [], laidByText := true, laidKinds := [.data, .data, .data, .data, .sentinel, .sentinel, .pinned], laidTests := true, laidLooks := .later }
def AsmOtherUptoCardSaid : Prop := Claim7.holds Tryd.pinned (.plain (OpenSpec.upto asmOtherSpec)) asmOtherUptoCard

/-- THE SECOND FORM's CARD OF 'whetstonelaw05.AsmWhole'. -/
def asmWholeUptoCard : Claim7 := { stood := { row := asmWholeUptoRow, standIns := [], harness := (true, "0a882fba12b872cd72f6a3946835a94f6e4322f342c4a7403de17723e92523d1"), looks := true }, kinds := [], alts := [], laidByText := true, laidKinds := [.data, .data, .data, .data, .sentinel, .sentinel, .pinned], laidTests := true, laidLooks := .later }
def AsmWholeUptoCardSaid : Prop := Claim7.holds Tryd.pinned (.plain (OpenSpec.upto asmWholeSpec)) asmWholeUptoCard

/-- THE SECOND FORM's CARD OF 'whetstonelaw05.AsmRows'. -/
def asmRowsUptoCard : Claim7 := { stood := { row := asmRowsUptoRow, standIns := [], harness := (true, "0a882fba12b872cd72f6a3946835a94f6e4322f342c4a7403de17723e92523d1"), looks := true }, kinds := [], alts := [], laidByText := true, laidKinds := [.data, .data, .data, .data, .sentinel, .sentinel, .pinned], laidTests := true, laidLooks := .later }
def AsmRowsUptoCardSaid : Prop := Claim7.holds Tryd.pinned (.plain (OpenSpec.upto asmRowsSpec)) asmRowsUptoCard
end Rows
end Go.Proofs.YtdgkbigmdadlaaaDoor
