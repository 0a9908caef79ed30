/-
  No cell of these rows narrows 'for every input' (looked for: loops, veiled, ifaces, maps, wideKeys, modest, calm, conditions, laid).
  DERIVED. THE GIVEN ROWS OF THIS SEAT. 2 by the template 'for every input the law returns true; each argument reads behind the call as it read before'; 0 by the template 'total and deterministic' (their statements: YtbjoblkigbphhaaTotals.lean).
  GIVEN WITH THE SEED: the statements are not yours to turn. If you find one false, say at which input.
  Laid BY PROGRAM, IN A SANDBOX (cutbox-rows.mjs): the forced cells as the released guide's own fill.sh prints them over the translation fb78ea34eeb40814… (all of the seat's roots in one cut). By AI agents, Wed Nov 11 2026. No macro, syntax, notation, axiom, sorry.
-/
import Derived.Test.YtbjoblkigbphhaaChecked
import GoSem.Claim
import GoSem.ClaimJoined
import GoSem.ClaimMapViews
import Derived.JoinedTies
import Derived.KernelRfl
namespace Go.Proofs.Ytbjoblkigbphhaa
/- THE CELL 'sum', in the pinned program and in every row, IS THE sha256 OF THE DUMP (.gsa) THAT YtbjoblkigbphhaaProg.lean LOADS. Nothing in Lean hashes anything: it is a label: what it is worth is what the hold of that sum in a sandbox is worth. -/
noncomputable def Try.pinned : Pinned := { name := "ytbjoblkigbphhaa", sum := "fb78ea34eeb40814d96ef4463cd5d70a3446aefdf851378ce9bd4abace07820b", checked := Try.checked }
namespace Rows
def none {H : Type} : Left H := { results := [], args := [] }

/-- 'sandpiletop.TopTopplesDrops': WHATEVER THE INPUT: true; the input reads as it did. -/
def topTopplesDropsSpec : ChangeSpec := { name := "topTopplesDrops", fn := fun _ => fun
  | [d1, d2, d3] => { results := [.lit (.bool true)], args := [d1, d2, d3] }
  | _ => none }
def topTopplesDropsRow : OpenClaim := { program := "ytbjoblkigbphhaa", sum := "fb78ea34eeb40814d96ef4463cd5d70a3446aefdf851378ce9bd4abace07820b", func := "sandpile/sandpiletop.TopTopplesDrops", spec := "topTopplesDrops", unfollowed := true, recurses := true, plainKeys := false, apart := false }
def TopTopplesDropsSaid : Prop := topTopplesDropsRow.holds Try.pinned (OpenSpec.ofChange topTopplesDropsSpec)

/-- ITS FALSE NEIGHBOUR: 'it returns false'. Refute it at one input. -/
def topTopplesDropsWrong : ChangeSpec := { name := "topTopplesDrops", fn := fun _ => fun
  | [d1, d2, d3] => { results := [.lit (.bool false)], args := [d1, d2, d3] }
  | _ => none }
def TopTopplesDropsWrongFalsely : Prop := topTopplesDropsRow.holds Try.pinned (OpenSpec.ofChange topTopplesDropsWrong)

/-- 'sandpiletop.TopTopplesClosed': WHATEVER THE INPUT: true; the input reads as it did. -/
def topTopplesClosedSpec : ChangeSpec := { name := "topTopplesClosed", fn := fun _ => fun
  | [d1, d2, d3] => { results := [.lit (.bool true)], args := [d1, d2, d3] }
  | _ => none }
def topTopplesClosedRow : OpenClaim := { program := "ytbjoblkigbphhaa", sum := "fb78ea34eeb40814d96ef4463cd5d70a3446aefdf851378ce9bd4abace07820b", func := "sandpile/sandpiletop.TopTopplesClosed", spec := "topTopplesClosed", unfollowed := true, recurses := true, plainKeys := false, apart := false }
def TopTopplesClosedSaid : Prop := topTopplesClosedRow.holds Try.pinned (OpenSpec.ofChange topTopplesClosedSpec)

/-- ITS FALSE NEIGHBOUR: 'it returns false'. Refute it at one input. -/
def topTopplesClosedWrong : ChangeSpec := { name := "topTopplesClosed", fn := fun _ => fun
  | [d1, d2, d3] => { results := [.lit (.bool false)], args := [d1, d2, d3] }
  | _ => none }
def TopTopplesClosedWrongFalsely : Prop := topTopplesClosedRow.holds Try.pinned (OpenSpec.ofChange topTopplesClosedWrong)

/- THE SECOND FORM. 'bulk': how many values and letters a reading holds, each counted each time it is reached (what is shared counts as often as it is met; a slice's spare places count too). A statement '..UptoSaid' is the law's where the arguments, and the package variables that the reading takes, are together of bulk at most 1048576: NARROWER than '..Said'. Prove '..Said' where nothing that the law and all that it calls make is longer than what came in: it says more and counts as full. Else prove '..UptoSaid'. A law counts once. -/
mutual
def uptoBulk {H : Type} : DataW H → Nat
  | .lit (.string bytes) => bytes.length + 1
  | .lit _ => 1
  | .nil => 1
  | .ptr d => uptoBulk d + 1
  | .slice elems spare => uptoBulkAll elems + uptoBulkAll spare + 1
  | .agg parts => uptoBulkAll parts + 1
  | .iface _ d => uptoBulk d + 1
  | .map entries => uptoBulkEntries entries + 1
  | .held _ => 1
def uptoBulkAll {H : Type} : List (DataW H) → Nat
  | [] => 0
  | d :: r => uptoBulk d + uptoBulkAll r
def uptoBulkEntries {H : Type} : List (Lit × DataW H) → Nat
  | [] => 0
  | x :: r => uptoBulkEntry x + uptoBulkEntries r
def uptoBulkEntry {H : Type} : Lit × DataW H → Nat
  | (.string bytes, d) => bytes.length + uptoBulk d + 1
  | (_, d) => uptoBulk d + 1
 end
def uptoSmall : (H : Type) → List (DataW H) → Bool := fun _ ds => decide (uptoBulkAll ds ≤ 1048576)
def OpenSpec.upto (s : _root_.Go.ChangeSpec) : _root_.Go.OpenSpec := { _root_.Go.OpenSpec.ofChange s with cond := some uptoSmall }

/-- 'sandpiletop.TopTopplesDrops', WHERE WHAT IT READS IS OF BULK AT MOST 1048576: true; the input reads as it did. -/
def topTopplesDropsUptoRow : OpenClaim := { program := "ytbjoblkigbphhaa", sum := "fb78ea34eeb40814d96ef4463cd5d70a3446aefdf851378ce9bd4abace07820b", func := "sandpile/sandpiletop.TopTopplesDrops", spec := "topTopplesDrops", unfollowed := true, recurses := true, plainKeys := false, apart := false, narrowed := true }
def TopTopplesDropsUptoSaid : Prop := topTopplesDropsUptoRow.holds Try.pinned (OpenSpec.upto topTopplesDropsSpec)

/-- 'sandpiletop.TopTopplesClosed', WHERE WHAT IT READS IS OF BULK AT MOST 1048576: true; the input reads as it did. -/
def topTopplesClosedUptoRow : OpenClaim := { program := "ytbjoblkigbphhaa", sum := "fb78ea34eeb40814d96ef4463cd5d70a3446aefdf851378ce9bd4abace07820b", func := "sandpile/sandpiletop.TopTopplesClosed", spec := "topTopplesClosed", unfollowed := true, recurses := true, plainKeys := false, apart := false, narrowed := true }
def TopTopplesClosedUptoSaid : Prop := topTopplesClosedUptoRow.holds Try.pinned (OpenSpec.upto topTopplesClosedSpec)

end Rows
end Go.Proofs.Ytbjoblkigbphhaa
