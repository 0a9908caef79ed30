/-
  DERIVED. GIVEN WITH THE SEED: THE CARDS: each row of YtkeglokokleonaaDoorRows.lean that lists a variable, with what it lists TIED to the program's text (the seventh form; the later family's looks); each row that meets fmt, with fmt's text TOLD by the authors' own Lean function (tested against real Go, not proved from fmt's source: count such statements apart). THE CARD IS WHAT COUNTS. Prove the row's statement (the work); the ties are given (YtkeglokokleonaaDoorTie.lean); close each card by the builder's one call (the guide's Derived/Test/ToyasCard.lean, 'card_holds'). Laid BY PROGRAM, IN A SANDBOX (cutbox-door.mjs). By AI agents, Wed Nov 11 2026. No macro, syntax, notation, axiom, sorry.
-/
import Derived.Test.YtkeglokokleonaaDoorRows
import GoSem.ClaimSeven
namespace Go.Proofs.YtkeglokokleonaaDoor
namespace Rows

/-- THE TIED CARD OF 'sandpilelaw07.LexerScans'. -/
def lexerScansCard : Claim7 := { stood := { row := lexerScansRow, standIns := [], harness := (true, "320378c26d0fed6645e59fe3d5390135688b4076da58cd68f3bd07bd912ee282"), looks := true }, kinds := [], alts := [], laidByText := true, laidKinds := [.data, .data, .data, .data, .sentinel, .sentinel, .pinned], laidTests := true, laidLooks := .later }
def LexerScansCardSaid : Prop := Claim7.holds Tryd.pinned (.plain (OpenSpec.ofChange lexerScansSpec)) lexerScansCard

/-- THE TIED CARD OF 'sandpilelaw07.LexerJoins'. -/
def lexerJoinsCard : Claim7 := { stood := { row := lexerJoinsRow, standIns := [], harness := (true, "320378c26d0fed6645e59fe3d5390135688b4076da58cd68f3bd07bd912ee282"), looks := true }, kinds := [], alts := [], laidByText := true, laidKinds := [.data, .data, .data, .data, .sentinel, .sentinel, .pinned], laidTests := true, laidLooks := .later }
def LexerJoinsCardSaid : Prop := Claim7.holds Tryd.pinned (.plain (OpenSpec.ofChange lexerJoinsSpec)) lexerJoinsCard

/-- THE TIED CARD OF 'sandpilelaw07.LexerNests'. -/
def lexerNestsCard : Claim7 := { stood := { row := lexerNestsRow, standIns := [], harness := (true, "320378c26d0fed6645e59fe3d5390135688b4076da58cd68f3bd07bd912ee282"), looks := true }, kinds := [], alts := [], laidByText := true, laidKinds := [.data, .data, .data, .data, .sentinel, .sentinel, .pinned], laidTests := true, laidLooks := .later }
def LexerNestsCardSaid : Prop := Claim7.holds Tryd.pinned (.plain (OpenSpec.ofChange lexerNestsSpec)) lexerNestsCard

/-- THE TIED CARD OF 'sandpilelaw07.LexerPlaces'. -/
def lexerPlacesCard : Claim7 := { stood := { row := lexerPlacesRow, standIns := [], harness := (true, "320378c26d0fed6645e59fe3d5390135688b4076da58cd68f3bd07bd912ee282"), looks := true }, kinds := [], alts := [], laidByText := true, laidKinds := [.data, .data, .data, .data, .sentinel, .sentinel, .pinned], laidTests := true, laidLooks := .later }
def LexerPlacesCardSaid : Prop := Claim7.holds Tryd.pinned (.plain (OpenSpec.ofChange lexerPlacesSpec)) lexerPlacesCard

/-- THE TIED CARD OF 'sandpilelaw07.LexerReturns'. -/
def lexerReturnsCard : Claim7 := { stood := { row := lexerReturnsRow, standIns := [], harness := (true, "320378c26d0fed6645e59fe3d5390135688b4076da58cd68f3bd07bd912ee282"), looks := true }, kinds := [], alts := [], laidByText := true, laidKinds := [.data, .data, .data, .data, .sentinel, .sentinel, .pinned], laidTests := true, laidLooks := .later }
def LexerReturnsCardSaid : Prop := Claim7.holds Tryd.pinned (.plain (OpenSpec.ofChange lexerReturnsSpec)) lexerReturnsCard

/-- THE TIED CARD OF 'sandpilelaw07.LexerBlanks'. -/
def lexerBlanksCard : Claim7 := { stood := { row := lexerBlanksRow, standIns := [], harness := (true, "320378c26d0fed6645e59fe3d5390135688b4076da58cd68f3bd07bd912ee282"), looks := true }, kinds := [], alts := [], laidByText := true, laidKinds := [.data, .data, .data, .data, .sentinel, .sentinel, .pinned], laidTests := true, laidLooks := .later }
def LexerBlanksCardSaid : Prop := Claim7.holds Tryd.pinned (.plain (OpenSpec.ofChange lexerBlanksSpec)) lexerBlanksCard

/-- THE SECOND FORM's CARD OF 'sandpilelaw07.LexerScans'. -/
def lexerScansUptoCard : Claim7 := { stood := { row := lexerScansUptoRow, standIns := [], harness := (true, "320378c26d0fed6645e59fe3d5390135688b4076da58cd68f3bd07bd912ee282"), looks := true }, kinds := [], alts := [], laidByText := true, laidKinds := [.data, .data, .data, .data, .sentinel, .sentinel, .pinned], laidTests := true, laidLooks := .later }
def LexerScansUptoCardSaid : Prop := Claim7.holds Tryd.pinned (.plain (OpenSpec.upto lexerScansSpec)) lexerScansUptoCard

/-- THE SECOND FORM's CARD OF 'sandpilelaw07.LexerJoins'. -/
def lexerJoinsUptoCard : Claim7 := { stood := { row := lexerJoinsUptoRow, standIns := [], harness := (true, "320378c26d0fed6645e59fe3d5390135688b4076da58cd68f3bd07bd912ee282"), looks := true }, kinds := [], alts := [], laidByText := true, laidKinds := [.data, .data, .data, .data, .sentinel, .sentinel, .pinned], laidTests := true, laidLooks := .later }
def LexerJoinsUptoCardSaid : Prop := Claim7.holds Tryd.pinned (.plain (OpenSpec.upto lexerJoinsSpec)) lexerJoinsUptoCard

/-- THE SECOND FORM's CARD OF 'sandpilelaw07.LexerNests'. -/
def lexerNestsUptoCard : Claim7 := { stood := { row := lexerNestsUptoRow, standIns := [], harness := (true, "320378c26d0fed6645e59fe3d5390135688b4076da58cd68f3bd07bd912ee282"), looks := true }, kinds := [], alts := [], laidByText := true, laidKinds := [.data, .data, .data, .data, .sentinel, .sentinel, .pinned], laidTests := true, laidLooks := .later }
def LexerNestsUptoCardSaid : Prop := Claim7.holds Tryd.pinned (.plain (OpenSpec.upto lexerNestsSpec)) lexerNestsUptoCard

/-- THE SECOND FORM's CARD OF 'sandpilelaw07.LexerPlaces'. -/
def lexerPlacesUptoCard : Claim7 := { stood := { row := lexerPlacesUptoRow, standIns := [], harness := (true, "320378c26d0fed6645e59fe3d5390135688b4076da58cd68f3bd07bd912ee282"), looks := true }, kinds := [], alts := [], laidByText := true, laidKinds := [.data, .data, .data, .data, .sentinel, .sentinel, .pinned], laidTests := true, laidLooks := .later }
def LexerPlacesUptoCardSaid : Prop := Claim7.holds Tryd.pinned (.plain (OpenSpec.upto lexerPlacesSpec)) lexerPlacesUptoCard

/-- THE SECOND FORM's CARD OF 'sandpilelaw07.LexerReturns'. -/
def lexerReturnsUptoCard : Claim7 := { stood := { row := lexerReturnsUptoRow, standIns := [], harness := (true, "320378c26d0fed6645e59fe3d5390135688b4076da58cd68f3bd07bd912ee282"), looks := true }, kinds := [], alts := [], laidByText := true, laidKinds := [.data, .data, .data, .data, .sentinel, .sentinel, .pinned], laidTests := true, laidLooks := .later }
def LexerReturnsUptoCardSaid : Prop := Claim7.holds Tryd.pinned (.plain (OpenSpec.upto lexerReturnsSpec)) lexerReturnsUptoCard

/-- THE SECOND FORM's CARD OF 'sandpilelaw07.LexerBlanks'. -/
def lexerBlanksUptoCard : Claim7 := { stood := { row := lexerBlanksUptoRow, standIns := [], harness := (true, "320378c26d0fed6645e59fe3d5390135688b4076da58cd68f3bd07bd912ee282"), looks := true }, kinds := [], alts := [], laidByText := true, laidKinds := [.data, .data, .data, .data, .sentinel, .sentinel, .pinned], laidTests := true, laidLooks := .later }
def LexerBlanksUptoCardSaid : Prop := Claim7.holds Tryd.pinned (.plain (OpenSpec.upto lexerBlanksSpec)) lexerBlanksUptoCard
end Rows
end Go.Proofs.YtkeglokokleonaaDoor
