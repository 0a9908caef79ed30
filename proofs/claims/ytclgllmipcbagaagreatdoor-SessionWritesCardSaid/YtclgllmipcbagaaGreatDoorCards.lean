/-
  DERIVED. GIVEN WITH THE SEED: THE CARDS: each row of YtclgllmipcbagaaGreatDoorRows.lean that lists a variable, with what it lists TIED to the program's text (the seventh form; the later family's looks); each row that meets fmt, with fmt's text TOLD by the authors' own Lean function (tested against real Go, not proved from fmt's source: count such statements apart). THE CARD IS WHAT COUNTS. Prove the row's statement (the work); the ties are given (YtclgllmipcbagaaGreatDoorTie.lean); close each card by the builder's one call (the guide's Derived/Test/ToyasCard.lean, 'card_holds'). Laid BY PROGRAM, IN A SANDBOX (cutbox-door.mjs). By AI agents, Wed Nov 11 2026. No macro, syntax, notation, axiom, sorry.
-/
import Derived.Test.YtclgllmipcbagaaGreatDoorRows
import GoSem.ClaimSeven
namespace Go.Proofs.YtclgllmipcbagaaGreatDoor
namespace Rows

/-- THE TIED CARD OF 'sandpilelaw59.SessionDoes'. -/
def sessionDoesCard : Claim7 := { stood := { row := sessionDoesRow, standIns := [], harness := (true, "40fd7c9d77945aea60ce38604d890a1f576dcfdeedf5cfb55ac1d8be6105ecf7"), looks := true }, kinds := [], alts := [], laidByText := true, laidKinds := [.data, .data, .data, .data, .sentinel, .sentinel, .pinned], laidTests := true, laidLooks := .later }
def SessionDoesCardSaid : Prop := Claim7.holds Tryz.pinned (.plain (OpenSpec.ofChange sessionDoesSpec)) sessionDoesCard

/-- THE TIED CARD OF 'sandpilelaw59.SessionWrites'. -/
def sessionWritesCard : Claim7 := { stood := { row := sessionWritesRow, standIns := [], harness := (true, "40fd7c9d77945aea60ce38604d890a1f576dcfdeedf5cfb55ac1d8be6105ecf7"), looks := true }, kinds := [], alts := [], laidByText := true, laidKinds := [.data, .data, .data, .data, .sentinel, .sentinel, .pinned], laidTests := true, laidLooks := .later }
def SessionWritesCardSaid : Prop := Claim7.holds Tryz.pinned (.plain (OpenSpec.ofChange sessionWritesSpec)) sessionWritesCard

/-- THE TIED CARD OF 'sandpilelaw59.SessionAdds'. -/
def sessionAddsCard : Claim7 := { stood := { row := sessionAddsRow, standIns := [], harness := (true, "40fd7c9d77945aea60ce38604d890a1f576dcfdeedf5cfb55ac1d8be6105ecf7"), looks := true }, kinds := [], alts := [], laidByText := true, laidKinds := [.data, .data, .data, .data, .sentinel, .sentinel, .pinned], laidTests := true, laidLooks := .later }
def SessionAddsCardSaid : Prop := Claim7.holds Tryz.pinned (.plain (OpenSpec.ofChange sessionAddsSpec)) sessionAddsCard

/-- THE TIED CARD OF 'sandpilelaw59.SessionChecks'. -/
def sessionChecksCard : Claim7 := { stood := { row := sessionChecksRow, standIns := [], harness := (true, "40fd7c9d77945aea60ce38604d890a1f576dcfdeedf5cfb55ac1d8be6105ecf7"), looks := true }, kinds := [], alts := [], laidByText := true, laidKinds := [.data, .data, .data, .data, .sentinel, .sentinel, .pinned], laidTests := true, laidLooks := .later }
def SessionChecksCardSaid : Prop := Claim7.holds Tryz.pinned (.plain (OpenSpec.ofChange sessionChecksSpec)) sessionChecksCard

/-- THE TIED CARD OF 'sandpilelaw59.SessionUndoes'. -/
def sessionUndoesCard : Claim7 := { stood := { row := sessionUndoesRow, standIns := [], harness := (true, "40fd7c9d77945aea60ce38604d890a1f576dcfdeedf5cfb55ac1d8be6105ecf7"), looks := true }, kinds := [], alts := [], laidByText := true, laidKinds := [.data, .data, .data, .data, .sentinel, .sentinel, .pinned], laidTests := true, laidLooks := .later }
def SessionUndoesCardSaid : Prop := Claim7.holds Tryz.pinned (.plain (OpenSpec.ofChange sessionUndoesSpec)) sessionUndoesCard

/-- THE TIED CARD OF 'sandpilelaw59.SessionJournals'. -/
def sessionJournalsCard : Claim7 := { stood := { row := sessionJournalsRow, standIns := [], harness := (true, "40fd7c9d77945aea60ce38604d890a1f576dcfdeedf5cfb55ac1d8be6105ecf7"), looks := true }, kinds := [], alts := [], laidByText := true, laidKinds := [.data, .data, .data, .data, .sentinel, .sentinel, .pinned], laidTests := true, laidLooks := .later }
def SessionJournalsCardSaid : Prop := Claim7.holds Tryz.pinned (.plain (OpenSpec.ofChange sessionJournalsSpec)) sessionJournalsCard

/-- THE TIED CARD OF 'sandpilelaw59.SessionReads'. -/
def sessionReadsCard : Claim7 := { stood := { row := sessionReadsRow, standIns := [], harness := (true, "40fd7c9d77945aea60ce38604d890a1f576dcfdeedf5cfb55ac1d8be6105ecf7"), looks := true }, kinds := [], alts := [], laidByText := true, laidKinds := [.data, .data, .data, .data, .sentinel, .sentinel, .pinned], laidTests := true, laidLooks := .later }
def SessionReadsCardSaid : Prop := Claim7.holds Tryz.pinned (.plain (OpenSpec.ofChange sessionReadsSpec)) sessionReadsCard

/-- THE TIED CARD OF 'sandpilelaw59.SessionTears'. -/
def sessionTearsCard : Claim7 := { stood := { row := sessionTearsRow, standIns := [], harness := (true, "40fd7c9d77945aea60ce38604d890a1f576dcfdeedf5cfb55ac1d8be6105ecf7"), looks := true }, kinds := [], alts := [], laidByText := true, laidKinds := [.data, .data, .data, .data, .sentinel, .sentinel, .pinned], laidTests := true, laidLooks := .later }
def SessionTearsCardSaid : Prop := Claim7.holds Tryz.pinned (.plain (OpenSpec.ofChange sessionTearsSpec)) sessionTearsCard

/-- THE SECOND FORM's CARD OF 'sandpilelaw59.SessionDoes'. -/
def sessionDoesUptoCard : Claim7 := { stood := { row := sessionDoesUptoRow, standIns := [], harness := (true, "40fd7c9d77945aea60ce38604d890a1f576dcfdeedf5cfb55ac1d8be6105ecf7"), looks := true }, kinds := [], alts := [], laidByText := true, laidKinds := [.data, .data, .data, .data, .sentinel, .sentinel, .pinned], laidTests := true, laidLooks := .later }
def SessionDoesUptoCardSaid : Prop := Claim7.holds Tryz.pinned (.plain (OpenSpec.upto sessionDoesSpec)) sessionDoesUptoCard

/-- THE SECOND FORM's CARD OF 'sandpilelaw59.SessionWrites'. -/
def sessionWritesUptoCard : Claim7 := { stood := { row := sessionWritesUptoRow, standIns := [], harness := (true, "40fd7c9d77945aea60ce38604d890a1f576dcfdeedf5cfb55ac1d8be6105ecf7"), looks := true }, kinds := [], alts := [], laidByText := true, laidKinds := [.data, .data, .data, .data, .sentinel, .sentinel, .pinned], laidTests := true, laidLooks := .later }
def SessionWritesUptoCardSaid : Prop := Claim7.holds Tryz.pinned (.plain (OpenSpec.upto sessionWritesSpec)) sessionWritesUptoCard

/-- THE SECOND FORM's CARD OF 'sandpilelaw59.SessionAdds'. -/
def sessionAddsUptoCard : Claim7 := { stood := { row := sessionAddsUptoRow, standIns := [], harness := (true, "40fd7c9d77945aea60ce38604d890a1f576dcfdeedf5cfb55ac1d8be6105ecf7"), looks := true }, kinds := [], alts := [], laidByText := true, laidKinds := [.data, .data, .data, .data, .sentinel, .sentinel, .pinned], laidTests := true, laidLooks := .later }
def SessionAddsUptoCardSaid : Prop := Claim7.holds Tryz.pinned (.plain (OpenSpec.upto sessionAddsSpec)) sessionAddsUptoCard

/-- THE SECOND FORM's CARD OF 'sandpilelaw59.SessionChecks'. -/
def sessionChecksUptoCard : Claim7 := { stood := { row := sessionChecksUptoRow, standIns := [], harness := (true, "40fd7c9d77945aea60ce38604d890a1f576dcfdeedf5cfb55ac1d8be6105ecf7"), looks := true }, kinds := [], alts := [], laidByText := true, laidKinds := [.data, .data, .data, .data, .sentinel, .sentinel, .pinned], laidTests := true, laidLooks := .later }
def SessionChecksUptoCardSaid : Prop := Claim7.holds Tryz.pinned (.plain (OpenSpec.upto sessionChecksSpec)) sessionChecksUptoCard

/-- THE SECOND FORM's CARD OF 'sandpilelaw59.SessionUndoes'. -/
def sessionUndoesUptoCard : Claim7 := { stood := { row := sessionUndoesUptoRow, standIns := [], harness := (true, "40fd7c9d77945aea60ce38604d890a1f576dcfdeedf5cfb55ac1d8be6105ecf7"), looks := true }, kinds := [], alts := [], laidByText := true, laidKinds := [.data, .data, .data, .data, .sentinel, .sentinel, .pinned], laidTests := true, laidLooks := .later }
def SessionUndoesUptoCardSaid : Prop := Claim7.holds Tryz.pinned (.plain (OpenSpec.upto sessionUndoesSpec)) sessionUndoesUptoCard

/-- THE SECOND FORM's CARD OF 'sandpilelaw59.SessionJournals'. -/
def sessionJournalsUptoCard : Claim7 := { stood := { row := sessionJournalsUptoRow, standIns := [], harness := (true, "40fd7c9d77945aea60ce38604d890a1f576dcfdeedf5cfb55ac1d8be6105ecf7"), looks := true }, kinds := [], alts := [], laidByText := true, laidKinds := [.data, .data, .data, .data, .sentinel, .sentinel, .pinned], laidTests := true, laidLooks := .later }
def SessionJournalsUptoCardSaid : Prop := Claim7.holds Tryz.pinned (.plain (OpenSpec.upto sessionJournalsSpec)) sessionJournalsUptoCard

/-- THE SECOND FORM's CARD OF 'sandpilelaw59.SessionReads'. -/
def sessionReadsUptoCard : Claim7 := { stood := { row := sessionReadsUptoRow, standIns := [], harness := (true, "40fd7c9d77945aea60ce38604d890a1f576dcfdeedf5cfb55ac1d8be6105ecf7"), looks := true }, kinds := [], alts := [], laidByText := true, laidKinds := [.data, .data, .data, .data, .sentinel, .sentinel, .pinned], laidTests := true, laidLooks := .later }
def SessionReadsUptoCardSaid : Prop := Claim7.holds Tryz.pinned (.plain (OpenSpec.upto sessionReadsSpec)) sessionReadsUptoCard

/-- THE SECOND FORM's CARD OF 'sandpilelaw59.SessionTears'. -/
def sessionTearsUptoCard : Claim7 := { stood := { row := sessionTearsUptoRow, standIns := [], harness := (true, "40fd7c9d77945aea60ce38604d890a1f576dcfdeedf5cfb55ac1d8be6105ecf7"), looks := true }, kinds := [], alts := [], laidByText := true, laidKinds := [.data, .data, .data, .data, .sentinel, .sentinel, .pinned], laidTests := true, laidLooks := .later }
def SessionTearsUptoCardSaid : Prop := Claim7.holds Tryz.pinned (.plain (OpenSpec.upto sessionTearsSpec)) sessionTearsUptoCard
end Rows
end Go.Proofs.YtclgllmipcbagaaGreatDoor
