/-
  No cell of these rows narrows 'for every input' (looked for: loops, veiled, ifaces, maps, wideKeys, modest, calm, conditions, laid).
  DERIVED. THE GIVEN ROWS OF THIS SEAT. 8 by the template 'for every input the law returns true; each argument reads behind the call as it read before'; 0 by the template 'total and deterministic' (their statements: YtlhbgainpeehoaaTotals.lean).
  GIVEN WITH THE SEED: the statements are not yours to turn. If you find one false, say at which input.
  Laid BY PROGRAM, IN A SANDBOX (cutbox-rows.mjs): the forced cells as the released guide's own fill.sh prints them over the translation aa8d5fee3df53536… (all of the seat's roots in one cut). By AI agents, Wed Nov 11 2026. No macro, syntax, notation, axiom, sorry.
-/
import Derived.Test.YtlhbgainpeehoaaChecked
import GoSem.Claim
import GoSem.ClaimJoined
import GoSem.ClaimMapViews
import Derived.JoinedTies
import Derived.KernelRfl
namespace Go.Proofs.Ytlhbgainpeehoaa
/- THE CELL 'sum', in the pinned program and in every row, IS THE sha256 OF THE DUMP (.gsa) THAT YtlhbgainpeehoaaProg.lean LOADS. Nothing in Lean hashes anything: it is a label: what it is worth is what the hold of that sum in a sandbox is worth. -/
noncomputable def Try.pinned : Pinned := { name := "ytlhbgainpeehoaa", sum := "aa8d5fee3df535363e2c76e69bab193a0264c77711b719a20fc85f4cbcb065b4", checked := Try.checked }
namespace Rows
def none {H : Type} : Left H := { results := [], args := [] }

/-- 'sandpilelaw21.ScheduleRuns': WHATEVER THE INPUT: true; the input reads as it did. -/
def scheduleRunsSpec : ChangeSpec := { name := "scheduleRuns", fn := fun _ => fun
  | [d1, d2, d3] => { results := [.lit (.bool true)], args := [d1, d2, d3] }
  | _ => none }
def scheduleRunsRow : OpenClaim := { program := "ytlhbgainpeehoaa", sum := "aa8d5fee3df535363e2c76e69bab193a0264c77711b719a20fc85f4cbcb065b4", func := "sandpile/sandpilelaw21.ScheduleRuns", spec := "scheduleRuns", unfollowed := true, recurses := true, apart := false }
def ScheduleRunsSaid : Prop := scheduleRunsRow.holds Try.pinned (OpenSpec.ofChange scheduleRunsSpec)

/-- ITS FALSE NEIGHBOUR: 'it returns false'. Refute it at one input. -/
def scheduleRunsWrong : ChangeSpec := { name := "scheduleRuns", fn := fun _ => fun
  | [d1, d2, d3] => { results := [.lit (.bool false)], args := [d1, d2, d3] }
  | _ => none }
def ScheduleRunsWrongFalsely : Prop := scheduleRunsRow.holds Try.pinned (OpenSpec.ofChange scheduleRunsWrong)

/-- 'sandpilelaw21.ScheduleSettles': WHATEVER THE INPUT: true; the input reads as it did. -/
def scheduleSettlesSpec : ChangeSpec := { name := "scheduleSettles", fn := fun _ => fun
  | [d1, d2, d3] => { results := [.lit (.bool true)], args := [d1, d2, d3] }
  | _ => none }
def scheduleSettlesRow : OpenClaim := { program := "ytlhbgainpeehoaa", sum := "aa8d5fee3df535363e2c76e69bab193a0264c77711b719a20fc85f4cbcb065b4", func := "sandpile/sandpilelaw21.ScheduleSettles", spec := "scheduleSettles", unfollowed := true, recurses := true, apart := false }
def ScheduleSettlesSaid : Prop := scheduleSettlesRow.holds Try.pinned (OpenSpec.ofChange scheduleSettlesSpec)

/-- ITS FALSE NEIGHBOUR: 'it returns false'. Refute it at one input. -/
def scheduleSettlesWrong : ChangeSpec := { name := "scheduleSettles", fn := fun _ => fun
  | [d1, d2, d3] => { results := [.lit (.bool false)], args := [d1, d2, d3] }
  | _ => none }
def ScheduleSettlesWrongFalsely : Prop := scheduleSettlesRow.holds Try.pinned (OpenSpec.ofChange scheduleSettlesWrong)

/-- 'sandpilelaw21.ScheduleDrifts': WHATEVER THE INPUT: true; the input reads as it did. -/
def scheduleDriftsSpec : ChangeSpec := { name := "scheduleDrifts", fn := fun _ => fun
  | [d1, d2, d3] => { results := [.lit (.bool true)], args := [d1, d2, d3] }
  | _ => none }
def scheduleDriftsRow : OpenClaim := { program := "ytlhbgainpeehoaa", sum := "aa8d5fee3df535363e2c76e69bab193a0264c77711b719a20fc85f4cbcb065b4", func := "sandpile/sandpilelaw21.ScheduleDrifts", spec := "scheduleDrifts", unfollowed := true, recurses := true, apart := false }
def ScheduleDriftsSaid : Prop := scheduleDriftsRow.holds Try.pinned (OpenSpec.ofChange scheduleDriftsSpec)

/-- ITS FALSE NEIGHBOUR: 'it returns false'. Refute it at one input. -/
def scheduleDriftsWrong : ChangeSpec := { name := "scheduleDrifts", fn := fun _ => fun
  | [d1, d2, d3] => { results := [.lit (.bool false)], args := [d1, d2, d3] }
  | _ => none }
def ScheduleDriftsWrongFalsely : Prop := scheduleDriftsRow.holds Try.pinned (OpenSpec.ofChange scheduleDriftsWrong)

/-- 'sandpilelaw21.ScheduleChecks': WHATEVER THE INPUT: true; the input reads as it did. -/
def scheduleChecksSpec : ChangeSpec := { name := "scheduleChecks", fn := fun _ => fun
  | [d1, d2] => { results := [.lit (.bool true)], args := [d1, d2] }
  | _ => none }
def scheduleChecksRow : OpenClaim := { program := "ytlhbgainpeehoaa", sum := "aa8d5fee3df535363e2c76e69bab193a0264c77711b719a20fc85f4cbcb065b4", func := "sandpile/sandpilelaw21.ScheduleChecks", spec := "scheduleChecks", unfollowed := true, recurses := true, apart := false }
def ScheduleChecksSaid : Prop := scheduleChecksRow.holds Try.pinned (OpenSpec.ofChange scheduleChecksSpec)

/-- ITS FALSE NEIGHBOUR: 'it returns false'. Refute it at one input. -/
def scheduleChecksWrong : ChangeSpec := { name := "scheduleChecks", fn := fun _ => fun
  | [d1, d2] => { results := [.lit (.bool false)], args := [d1, d2] }
  | _ => none }
def ScheduleChecksWrongFalsely : Prop := scheduleChecksRow.holds Try.pinned (OpenSpec.ofChange scheduleChecksWrong)

/-- 'sandpilelaw21.ScheduleAgrees': WHATEVER THE INPUT: true; the input reads as it did. -/
def scheduleAgreesSpec : ChangeSpec := { name := "scheduleAgrees", fn := fun _ => fun
  | [d1, d2, d3] => { results := [.lit (.bool true)], args := [d1, d2, d3] }
  | _ => none }
def scheduleAgreesRow : OpenClaim := { program := "ytlhbgainpeehoaa", sum := "aa8d5fee3df535363e2c76e69bab193a0264c77711b719a20fc85f4cbcb065b4", func := "sandpile/sandpilelaw21.ScheduleAgrees", spec := "scheduleAgrees", unfollowed := true, recurses := true, apart := false }
def ScheduleAgreesSaid : Prop := scheduleAgreesRow.holds Try.pinned (OpenSpec.ofChange scheduleAgreesSpec)

/-- ITS FALSE NEIGHBOUR: 'it returns false'. Refute it at one input. -/
def scheduleAgreesWrong : ChangeSpec := { name := "scheduleAgrees", fn := fun _ => fun
  | [d1, d2, d3] => { results := [.lit (.bool false)], args := [d1, d2, d3] }
  | _ => none }
def ScheduleAgreesWrongFalsely : Prop := scheduleAgreesRow.holds Try.pinned (OpenSpec.ofChange scheduleAgreesWrong)

/-- 'sandpilelaw21.ScheduleArrives': WHATEVER THE INPUT: true; the input reads as it did. -/
def scheduleArrivesSpec : ChangeSpec := { name := "scheduleArrives", fn := fun _ => fun
  | [d1, d2, d3] => { results := [.lit (.bool true)], args := [d1, d2, d3] }
  | _ => none }
def scheduleArrivesRow : OpenClaim := { program := "ytlhbgainpeehoaa", sum := "aa8d5fee3df535363e2c76e69bab193a0264c77711b719a20fc85f4cbcb065b4", func := "sandpile/sandpilelaw21.ScheduleArrives", spec := "scheduleArrives", unfollowed := true, recurses := true, apart := false }
def ScheduleArrivesSaid : Prop := scheduleArrivesRow.holds Try.pinned (OpenSpec.ofChange scheduleArrivesSpec)

/-- ITS FALSE NEIGHBOUR: 'it returns false'. Refute it at one input. -/
def scheduleArrivesWrong : ChangeSpec := { name := "scheduleArrives", fn := fun _ => fun
  | [d1, d2, d3] => { results := [.lit (.bool false)], args := [d1, d2, d3] }
  | _ => none }
def ScheduleArrivesWrongFalsely : Prop := scheduleArrivesRow.holds Try.pinned (OpenSpec.ofChange scheduleArrivesWrong)

/-- 'sandpilelaw21.ScheduleDrops': WHATEVER THE INPUT: true; the input reads as it did. -/
def scheduleDropsSpec : ChangeSpec := { name := "scheduleDrops", fn := fun _ => fun
  | [d1, d2, d3] => { results := [.lit (.bool true)], args := [d1, d2, d3] }
  | _ => none }
def scheduleDropsRow : OpenClaim := { program := "ytlhbgainpeehoaa", sum := "aa8d5fee3df535363e2c76e69bab193a0264c77711b719a20fc85f4cbcb065b4", func := "sandpile/sandpilelaw21.ScheduleDrops", spec := "scheduleDrops", unfollowed := true, recurses := true, apart := false }
def ScheduleDropsSaid : Prop := scheduleDropsRow.holds Try.pinned (OpenSpec.ofChange scheduleDropsSpec)

/-- ITS FALSE NEIGHBOUR: 'it returns false'. Refute it at one input. -/
def scheduleDropsWrong : ChangeSpec := { name := "scheduleDrops", fn := fun _ => fun
  | [d1, d2, d3] => { results := [.lit (.bool false)], args := [d1, d2, d3] }
  | _ => none }
def ScheduleDropsWrongFalsely : Prop := scheduleDropsRow.holds Try.pinned (OpenSpec.ofChange scheduleDropsWrong)

/-- 'sandpilelaw21.ScheduleTraces': WHATEVER THE INPUT: true; the input reads as it did. -/
def scheduleTracesSpec : ChangeSpec := { name := "scheduleTraces", fn := fun _ => fun
  | [d1, d2, d3] => { results := [.lit (.bool true)], args := [d1, d2, d3] }
  | _ => none }
def scheduleTracesRow : OpenClaim := { program := "ytlhbgainpeehoaa", sum := "aa8d5fee3df535363e2c76e69bab193a0264c77711b719a20fc85f4cbcb065b4", func := "sandpile/sandpilelaw21.ScheduleTraces", spec := "scheduleTraces", unfollowed := true, recurses := true, apart := false }
def ScheduleTracesSaid : Prop := scheduleTracesRow.holds Try.pinned (OpenSpec.ofChange scheduleTracesSpec)

/-- ITS FALSE NEIGHBOUR: 'it returns false'. Refute it at one input. -/
def scheduleTracesWrong : ChangeSpec := { name := "scheduleTraces", fn := fun _ => fun
  | [d1, d2, d3] => { results := [.lit (.bool false)], args := [d1, d2, d3] }
  | _ => none }
def ScheduleTracesWrongFalsely : Prop := scheduleTracesRow.holds Try.pinned (OpenSpec.ofChange scheduleTracesWrong)

/- THE SECOND FORM. 'bulk': how many values and letters a reading holds, each counted each time it is reached (what is shared counts as often as it is met; a slice's spare places count too). A statement '..UptoSaid' is the law's where the arguments, and the package variables that the reading takes, are together of bulk at most 1048576: NARROWER than '..Said'. Prove '..Said' where nothing that the law and all that it calls make is longer than what came in: it says more and counts as full. Else prove '..UptoSaid'. A law counts once. -/
mutual
def uptoBulk {H : Type} : DataW H → Nat
  | .lit (.string bytes) => bytes.length + 1
  | .lit _ => 1
  | .nil => 1
  | .ptr d => uptoBulk d + 1
  | .slice elems spare => uptoBulkAll elems + uptoBulkAll spare + 1
  | .agg parts => uptoBulkAll parts + 1
  | .iface _ d => uptoBulk d + 1
  | .map entries => uptoBulkEntries entries + 1
  | .held _ => 1
def uptoBulkAll {H : Type} : List (DataW H) → Nat
  | [] => 0
  | d :: r => uptoBulk d + uptoBulkAll r
def uptoBulkEntries {H : Type} : List (Lit × DataW H) → Nat
  | [] => 0
  | x :: r => uptoBulkEntry x + uptoBulkEntries r
def uptoBulkEntry {H : Type} : Lit × DataW H → Nat
  | (.string bytes, d) => bytes.length + uptoBulk d + 1
  | (_, d) => uptoBulk d + 1
 end
def uptoSmall : (H : Type) → List (DataW H) → Bool := fun _ ds => decide (uptoBulkAll ds ≤ 1048576)
def OpenSpec.upto (s : _root_.Go.ChangeSpec) : _root_.Go.OpenSpec := { _root_.Go.OpenSpec.ofChange s with cond := some uptoSmall }

/-- 'sandpilelaw21.ScheduleRuns', WHERE WHAT IT READS IS OF BULK AT MOST 1048576: true; the input reads as it did. -/
def scheduleRunsUptoRow : OpenClaim := { program := "ytlhbgainpeehoaa", sum := "aa8d5fee3df535363e2c76e69bab193a0264c77711b719a20fc85f4cbcb065b4", func := "sandpile/sandpilelaw21.ScheduleRuns", spec := "scheduleRuns", unfollowed := true, recurses := true, apart := false, narrowed := true }
def ScheduleRunsUptoSaid : Prop := scheduleRunsUptoRow.holds Try.pinned (OpenSpec.upto scheduleRunsSpec)

/-- 'sandpilelaw21.ScheduleSettles', WHERE WHAT IT READS IS OF BULK AT MOST 1048576: true; the input reads as it did. -/
def scheduleSettlesUptoRow : OpenClaim := { program := "ytlhbgainpeehoaa", sum := "aa8d5fee3df535363e2c76e69bab193a0264c77711b719a20fc85f4cbcb065b4", func := "sandpile/sandpilelaw21.ScheduleSettles", spec := "scheduleSettles", unfollowed := true, recurses := true, apart := false, narrowed := true }
def ScheduleSettlesUptoSaid : Prop := scheduleSettlesUptoRow.holds Try.pinned (OpenSpec.upto scheduleSettlesSpec)

/-- 'sandpilelaw21.ScheduleDrifts', WHERE WHAT IT READS IS OF BULK AT MOST 1048576: true; the input reads as it did. -/
def scheduleDriftsUptoRow : OpenClaim := { program := "ytlhbgainpeehoaa", sum := "aa8d5fee3df535363e2c76e69bab193a0264c77711b719a20fc85f4cbcb065b4", func := "sandpile/sandpilelaw21.ScheduleDrifts", spec := "scheduleDrifts", unfollowed := true, recurses := true, apart := false, narrowed := true }
def ScheduleDriftsUptoSaid : Prop := scheduleDriftsUptoRow.holds Try.pinned (OpenSpec.upto scheduleDriftsSpec)

/-- 'sandpilelaw21.ScheduleChecks', WHERE WHAT IT READS IS OF BULK AT MOST 1048576: true; the input reads as it did. -/
def scheduleChecksUptoRow : OpenClaim := { program := "ytlhbgainpeehoaa", sum := "aa8d5fee3df535363e2c76e69bab193a0264c77711b719a20fc85f4cbcb065b4", func := "sandpile/sandpilelaw21.ScheduleChecks", spec := "scheduleChecks", unfollowed := true, recurses := true, apart := false, narrowed := true }
def ScheduleChecksUptoSaid : Prop := scheduleChecksUptoRow.holds Try.pinned (OpenSpec.upto scheduleChecksSpec)

/-- 'sandpilelaw21.ScheduleAgrees', WHERE WHAT IT READS IS OF BULK AT MOST 1048576: true; the input reads as it did. -/
def scheduleAgreesUptoRow : OpenClaim := { program := "ytlhbgainpeehoaa", sum := "aa8d5fee3df535363e2c76e69bab193a0264c77711b719a20fc85f4cbcb065b4", func := "sandpile/sandpilelaw21.ScheduleAgrees", spec := "scheduleAgrees", unfollowed := true, recurses := true, apart := false, narrowed := true }
def ScheduleAgreesUptoSaid : Prop := scheduleAgreesUptoRow.holds Try.pinned (OpenSpec.upto scheduleAgreesSpec)

/-- 'sandpilelaw21.ScheduleArrives', WHERE WHAT IT READS IS OF BULK AT MOST 1048576: true; the input reads as it did. -/
def scheduleArrivesUptoRow : OpenClaim := { program := "ytlhbgainpeehoaa", sum := "aa8d5fee3df535363e2c76e69bab193a0264c77711b719a20fc85f4cbcb065b4", func := "sandpile/sandpilelaw21.ScheduleArrives", spec := "scheduleArrives", unfollowed := true, recurses := true, apart := false, narrowed := true }
def ScheduleArrivesUptoSaid : Prop := scheduleArrivesUptoRow.holds Try.pinned (OpenSpec.upto scheduleArrivesSpec)

/-- 'sandpilelaw21.ScheduleDrops', WHERE WHAT IT READS IS OF BULK AT MOST 1048576: true; the input reads as it did. -/
def scheduleDropsUptoRow : OpenClaim := { program := "ytlhbgainpeehoaa", sum := "aa8d5fee3df535363e2c76e69bab193a0264c77711b719a20fc85f4cbcb065b4", func := "sandpile/sandpilelaw21.ScheduleDrops", spec := "scheduleDrops", unfollowed := true, recurses := true, apart := false, narrowed := true }
def ScheduleDropsUptoSaid : Prop := scheduleDropsUptoRow.holds Try.pinned (OpenSpec.upto scheduleDropsSpec)

/-- 'sandpilelaw21.ScheduleTraces', WHERE WHAT IT READS IS OF BULK AT MOST 1048576: true; the input reads as it did. -/
def scheduleTracesUptoRow : OpenClaim := { program := "ytlhbgainpeehoaa", sum := "aa8d5fee3df535363e2c76e69bab193a0264c77711b719a20fc85f4cbcb065b4", func := "sandpile/sandpilelaw21.ScheduleTraces", spec := "scheduleTraces", unfollowed := true, recurses := true, apart := false, narrowed := true }
def ScheduleTracesUptoSaid : Prop := scheduleTracesUptoRow.holds Try.pinned (OpenSpec.upto scheduleTracesSpec)

end Rows
end Go.Proofs.Ytlhbgainpeehoaa
