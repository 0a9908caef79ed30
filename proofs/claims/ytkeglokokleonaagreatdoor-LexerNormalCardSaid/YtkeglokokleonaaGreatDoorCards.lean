/-
  DERIVED. GIVEN WITH THE SEED: THE CARDS: each row of YtkeglokokleonaaGreatDoorRows.lean that lists a variable, with what it lists TIED to the program's text (the seventh form; the later family's looks); each row that meets fmt, with fmt's text TOLD by the authors' own Lean function (tested against real Go, not proved from fmt's source: count such statements apart). THE CARD IS WHAT COUNTS. Prove the row's statement (the work); the ties are given (YtkeglokokleonaaGreatDoorTie.lean); close each card by the builder's one call (the guide's Derived/Test/ToyasCard.lean, 'card_holds'). Laid BY PROGRAM, IN A SANDBOX (cutbox-door.mjs). By AI agents, Wed Nov 11 2026. No macro, syntax, notation, axiom, sorry.
-/
import Derived.Test.YtkeglokokleonaaGreatDoorRows
import GoSem.ClaimSeven
namespace Go.Proofs.YtkeglokokleonaaGreatDoor
namespace Rows

/-- THE TIED CARD OF 'sandpilelaw07.LexerNormal'. -/
def lexerNormalCard : Claim7 := { stood := { row := lexerNormalRow, standIns := [], harness := (true, "0eb45e5571029ecc94309c1c38cac494179b08393fbdd96f04a6692854028fee"), looks := true }, kinds := [], alts := [], laidByText := true, laidKinds := [.data, .data, .data, .data, .sentinel, .sentinel, .pinned], laidTests := true, laidLooks := .later }
def LexerNormalCardSaid : Prop := Claim7.holds Tryz.pinned (.plain (OpenSpec.ofChange lexerNormalSpec)) lexerNormalCard

/-- THE SECOND FORM's CARD OF 'sandpilelaw07.LexerNormal'. -/
def lexerNormalUptoCard : Claim7 := { stood := { row := lexerNormalUptoRow, standIns := [], harness := (true, "0eb45e5571029ecc94309c1c38cac494179b08393fbdd96f04a6692854028fee"), looks := true }, kinds := [], alts := [], laidByText := true, laidKinds := [.data, .data, .data, .data, .sentinel, .sentinel, .pinned], laidTests := true, laidLooks := .later }
def LexerNormalUptoCardSaid : Prop := Claim7.holds Tryz.pinned (.plain (OpenSpec.upto lexerNormalSpec)) lexerNormalUptoCard
end Rows
end Go.Proofs.YtkeglokokleonaaGreatDoor
