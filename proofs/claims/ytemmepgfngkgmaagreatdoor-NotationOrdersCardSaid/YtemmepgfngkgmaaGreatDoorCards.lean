/-
  DERIVED. GIVEN WITH THE SEED: THE CARDS: each row of YtemmepgfngkgmaaGreatDoorRows.lean that lists a variable, with what it lists TIED to the program's text (the seventh form; the later family's looks); each row that meets fmt, with fmt's text TOLD by the authors' own Lean function (tested against real Go, not proved from fmt's source: count such statements apart). THE CARD IS WHAT COUNTS. Prove the row's statement (the work); the ties are given (YtemmepgfngkgmaaGreatDoorTie.lean); close each card by the builder's one call (the guide's Derived/Test/ToyasCard.lean, 'card_holds'). Laid BY PROGRAM, IN A SANDBOX (cutbox-door.mjs). By AI agents, Wed Nov 11 2026. No macro, syntax, notation, axiom, sorry.
-/
import Derived.Test.YtemmepgfngkgmaaGreatDoorRows
import GoSem.ClaimSeven
namespace Go.Proofs.YtemmepgfngkgmaaGreatDoor
namespace Rows

/-- THE TIED CARD OF 'sandpilelaw09.NotationGraphs'. -/
def notationGraphsCard : Claim7 := { stood := { row := notationGraphsRow, standIns := [], harness := (true, "1548fc9e42ba8b2dc0427eac47e8c4423fa4453e956ef1f03634e79eae693c60"), looks := true }, kinds := [], alts := [], laidByText := true, laidKinds := [.data, .data, .data, .data, .sentinel, .sentinel, .pinned], laidTests := true, laidLooks := .later }
def NotationGraphsCardSaid : Prop := Claim7.holds Tryz.pinned (.plain (OpenSpec.ofChange notationGraphsSpec)) notationGraphsCard

/-- THE TIED CARD OF 'sandpilelaw09.NotationReads'. -/
def notationReadsCard : Claim7 := { stood := { row := notationReadsRow, standIns := [], harness := (true, "1548fc9e42ba8b2dc0427eac47e8c4423fa4453e956ef1f03634e79eae693c60"), looks := true }, kinds := [], alts := [], laidByText := true, laidKinds := [.data, .data, .data, .data, .sentinel, .sentinel, .pinned], laidTests := true, laidLooks := .later }
def NotationReadsCardSaid : Prop := Claim7.holds Tryz.pinned (.plain (OpenSpec.ofChange notationReadsSpec)) notationReadsCard

/-- THE TIED CARD OF 'sandpilelaw09.NotationRibbons'. -/
def notationRibbonsCard : Claim7 := { stood := { row := notationRibbonsRow, standIns := [], harness := (true, "1548fc9e42ba8b2dc0427eac47e8c4423fa4453e956ef1f03634e79eae693c60"), looks := true }, kinds := [], alts := [], laidByText := true, laidKinds := [.data, .data, .data, .data, .sentinel, .sentinel, .pinned], laidTests := true, laidLooks := .later }
def NotationRibbonsCardSaid : Prop := Claim7.holds Tryz.pinned (.plain (OpenSpec.ofChange notationRibbonsSpec)) notationRibbonsCard

/-- THE TIED CARD OF 'sandpilelaw09.NotationLists'. -/
def notationListsCard : Claim7 := { stood := { row := notationListsRow, standIns := [], harness := (true, "1548fc9e42ba8b2dc0427eac47e8c4423fa4453e956ef1f03634e79eae693c60"), looks := true }, kinds := [], alts := [], laidByText := true, laidKinds := [.data, .data, .data, .data, .sentinel, .sentinel, .pinned], laidTests := true, laidLooks := .later }
def NotationListsCardSaid : Prop := Claim7.holds Tryz.pinned (.plain (OpenSpec.ofChange notationListsSpec)) notationListsCard

/-- THE TIED CARD OF 'sandpilelaw09.NotationDigraphs'. -/
def notationDigraphsCard : Claim7 := { stood := { row := notationDigraphsRow, standIns := [], harness := (true, "1548fc9e42ba8b2dc0427eac47e8c4423fa4453e956ef1f03634e79eae693c60"), looks := true }, kinds := [], alts := [], laidByText := true, laidKinds := [.data, .data, .data, .data, .sentinel, .sentinel, .pinned], laidTests := true, laidLooks := .later }
def NotationDigraphsCardSaid : Prop := Claim7.holds Tryz.pinned (.plain (OpenSpec.ofChange notationDigraphsSpec)) notationDigraphsCard

/-- THE TIED CARD OF 'sandpilelaw09.NotationNormal'. -/
def notationNormalCard : Claim7 := { stood := { row := notationNormalRow, standIns := [], harness := (true, "1548fc9e42ba8b2dc0427eac47e8c4423fa4453e956ef1f03634e79eae693c60"), looks := true }, kinds := [], alts := [], laidByText := true, laidKinds := [.data, .data, .data, .data, .sentinel, .sentinel, .pinned], laidTests := true, laidLooks := .later }
def NotationNormalCardSaid : Prop := Claim7.holds Tryz.pinned (.plain (OpenSpec.ofChange notationNormalSpec)) notationNormalCard

/-- THE TIED CARD OF 'sandpilelaw09.NotationReturns'. -/
def notationReturnsCard : Claim7 := { stood := { row := notationReturnsRow, standIns := [], harness := (true, "1548fc9e42ba8b2dc0427eac47e8c4423fa4453e956ef1f03634e79eae693c60"), looks := true }, kinds := [], alts := [], laidByText := true, laidKinds := [.data, .data, .data, .data, .sentinel, .sentinel, .pinned], laidTests := true, laidLooks := .later }
def NotationReturnsCardSaid : Prop := Claim7.holds Tryz.pinned (.plain (OpenSpec.ofChange notationReturnsSpec)) notationReturnsCard

/-- THE TIED CARD OF 'sandpilelaw09.NotationOrders'. -/
def notationOrdersCard : Claim7 := { stood := { row := notationOrdersRow, standIns := [], harness := (true, "1548fc9e42ba8b2dc0427eac47e8c4423fa4453e956ef1f03634e79eae693c60"), looks := true }, kinds := [], alts := [], laidByText := true, laidKinds := [.data, .data, .data, .data, .sentinel, .sentinel, .pinned], laidTests := true, laidLooks := .later }
def NotationOrdersCardSaid : Prop := Claim7.holds Tryz.pinned (.plain (OpenSpec.ofChange notationOrdersSpec)) notationOrdersCard

/-- THE SECOND FORM's CARD OF 'sandpilelaw09.NotationGraphs'. -/
def notationGraphsUptoCard : Claim7 := { stood := { row := notationGraphsUptoRow, standIns := [], harness := (true, "1548fc9e42ba8b2dc0427eac47e8c4423fa4453e956ef1f03634e79eae693c60"), looks := true }, kinds := [], alts := [], laidByText := true, laidKinds := [.data, .data, .data, .data, .sentinel, .sentinel, .pinned], laidTests := true, laidLooks := .later }
def NotationGraphsUptoCardSaid : Prop := Claim7.holds Tryz.pinned (.plain (OpenSpec.upto notationGraphsSpec)) notationGraphsUptoCard

/-- THE SECOND FORM's CARD OF 'sandpilelaw09.NotationReads'. -/
def notationReadsUptoCard : Claim7 := { stood := { row := notationReadsUptoRow, standIns := [], harness := (true, "1548fc9e42ba8b2dc0427eac47e8c4423fa4453e956ef1f03634e79eae693c60"), looks := true }, kinds := [], alts := [], laidByText := true, laidKinds := [.data, .data, .data, .data, .sentinel, .sentinel, .pinned], laidTests := true, laidLooks := .later }
def NotationReadsUptoCardSaid : Prop := Claim7.holds Tryz.pinned (.plain (OpenSpec.upto notationReadsSpec)) notationReadsUptoCard

/-- THE SECOND FORM's CARD OF 'sandpilelaw09.NotationRibbons'. -/
def notationRibbonsUptoCard : Claim7 := { stood := { row := notationRibbonsUptoRow, standIns := [], harness := (true, "1548fc9e42ba8b2dc0427eac47e8c4423fa4453e956ef1f03634e79eae693c60"), looks := true }, kinds := [], alts := [], laidByText := true, laidKinds := [.data, .data, .data, .data, .sentinel, .sentinel, .pinned], laidTests := true, laidLooks := .later }
def NotationRibbonsUptoCardSaid : Prop := Claim7.holds Tryz.pinned (.plain (OpenSpec.upto notationRibbonsSpec)) notationRibbonsUptoCard

/-- THE SECOND FORM's CARD OF 'sandpilelaw09.NotationLists'. -/
def notationListsUptoCard : Claim7 := { stood := { row := notationListsUptoRow, standIns := [], harness := (true, "1548fc9e42ba8b2dc0427eac47e8c4423fa4453e956ef1f03634e79eae693c60"), looks := true }, kinds := [], alts := [], laidByText := true, laidKinds := [.data, .data, .data, .data, .sentinel, .sentinel, .pinned], laidTests := true, laidLooks := .later }
def NotationListsUptoCardSaid : Prop := Claim7.holds Tryz.pinned (.plain (OpenSpec.upto notationListsSpec)) notationListsUptoCard

/-- THE SECOND FORM's CARD OF 'sandpilelaw09.NotationDigraphs'. -/
def notationDigraphsUptoCard : Claim7 := { stood := { row := notationDigraphsUptoRow, standIns := [], harness := (true, "1548fc9e42ba8b2dc0427eac47e8c4423fa4453e956ef1f03634e79eae693c60"), looks := true }, kinds := [], alts := [], laidByText := true, laidKinds := [.data, .data, .data, .data, .sentinel, .sentinel, .pinned], laidTests := true, laidLooks := .later }
def NotationDigraphsUptoCardSaid : Prop := Claim7.holds Tryz.pinned (.plain (OpenSpec.upto notationDigraphsSpec)) notationDigraphsUptoCard

/-- THE SECOND FORM's CARD OF 'sandpilelaw09.NotationNormal'. -/
def notationNormalUptoCard : Claim7 := { stood := { row := notationNormalUptoRow, standIns := [], harness := (true, "1548fc9e42ba8b2dc0427eac47e8c4423fa4453e956ef1f03634e79eae693c60"), looks := true }, kinds := [], alts := [], laidByText := true, laidKinds := [.data, .data, .data, .data, .sentinel, .sentinel, .pinned], laidTests := true, laidLooks := .later }
def NotationNormalUptoCardSaid : Prop := Claim7.holds Tryz.pinned (.plain (OpenSpec.upto notationNormalSpec)) notationNormalUptoCard

/-- THE SECOND FORM's CARD OF 'sandpilelaw09.NotationReturns'. -/
def notationReturnsUptoCard : Claim7 := { stood := { row := notationReturnsUptoRow, standIns := [], harness := (true, "1548fc9e42ba8b2dc0427eac47e8c4423fa4453e956ef1f03634e79eae693c60"), looks := true }, kinds := [], alts := [], laidByText := true, laidKinds := [.data, .data, .data, .data, .sentinel, .sentinel, .pinned], laidTests := true, laidLooks := .later }
def NotationReturnsUptoCardSaid : Prop := Claim7.holds Tryz.pinned (.plain (OpenSpec.upto notationReturnsSpec)) notationReturnsUptoCard

/-- THE SECOND FORM's CARD OF 'sandpilelaw09.NotationOrders'. -/
def notationOrdersUptoCard : Claim7 := { stood := { row := notationOrdersUptoRow, standIns := [], harness := (true, "1548fc9e42ba8b2dc0427eac47e8c4423fa4453e956ef1f03634e79eae693c60"), looks := true }, kinds := [], alts := [], laidByText := true, laidKinds := [.data, .data, .data, .data, .sentinel, .sentinel, .pinned], laidTests := true, laidLooks := .later }
def NotationOrdersUptoCardSaid : Prop := Claim7.holds Tryz.pinned (.plain (OpenSpec.upto notationOrdersSpec)) notationOrdersUptoCard
end Rows
end Go.Proofs.YtemmepgfngkgmaaGreatDoor
