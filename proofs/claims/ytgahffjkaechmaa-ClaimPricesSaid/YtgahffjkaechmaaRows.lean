/-
  No cell of these rows narrows 'for every input' (looked for: loops, veiled, ifaces, maps, wideKeys, modest, calm, conditions, laid).
  DERIVED. THE GIVEN ROWS OF THIS SEAT. 12 by the template 'for every input the law returns true; each argument reads behind the call as it read before'; 0 by the template 'total and deterministic' (their statements: YtgahffjkaechmaaTotals.lean).
  GIVEN WITH THE SEED: the statements are not yours to turn. If you find one false, say at which input.
  Laid BY PROGRAM, IN A SANDBOX (cutbox-rows.mjs): the forced cells as the released guide's own fill.sh prints them over the translation 26fae6d815263e7c… (all of the seat's roots in one cut). By AI agents, Wed Nov 11 2026. No macro, syntax, notation, axiom, sorry.
-/
import Derived.Test.YtgahffjkaechmaaChecked
import GoSem.Claim
import GoSem.ClaimJoined
import GoSem.ClaimMapViews
import Derived.JoinedTies
import Derived.KernelRfl
namespace Go.Proofs.Ytgahffjkaechmaa
/- THE CELL 'sum', in the pinned program and in every row, IS THE sha256 OF THE DUMP (.gsa) THAT YtgahffjkaechmaaProg.lean LOADS. Nothing in Lean hashes anything: it is a label: what it is worth is what the hold of that sum in a sandbox is worth. -/
noncomputable def Try.pinned : Pinned := { name := "ytgahffjkaechmaa", sum := "26fae6d815263e7c494c61e7ba24d80a11eae9b11c0e0c50905de04e2bae0e87", checked := Try.checked }
namespace Rows
def none {H : Type} : Left H := { results := [], args := [] }

/-- 'ostlerlaw.FlowDominators': WHATEVER THE INPUT: true; the input reads as it did. -/
def flowDominatorsSpec : ChangeSpec := { name := "flowDominators", fn := fun _ => fun
  | [d1, d2] => { results := [.lit (.bool true)], args := [d1, d2] }
  | _ => none }
def flowDominatorsRow : OpenClaim := { program := "ytgahffjkaechmaa", sum := "26fae6d815263e7c494c61e7ba24d80a11eae9b11c0e0c50905de04e2bae0e87", func := "ostler/ostlerlaw.FlowDominators", spec := "flowDominators", unfollowed := true, recurses := true, apart := false }
def FlowDominatorsSaid : Prop := flowDominatorsRow.holds Try.pinned (OpenSpec.ofChange flowDominatorsSpec)

/-- ITS FALSE NEIGHBOUR: 'it returns false'. Refute it at one input. -/
def flowDominatorsWrong : ChangeSpec := { name := "flowDominators", fn := fun _ => fun
  | [d1, d2] => { results := [.lit (.bool false)], args := [d1, d2] }
  | _ => none }
def FlowDominatorsWrongFalsely : Prop := flowDominatorsRow.holds Try.pinned (OpenSpec.ofChange flowDominatorsWrong)

/-- 'ostlerlaw.WireEncodes': WHATEVER THE INPUT: true; the input reads as it did. -/
def wireEncodesSpec : ChangeSpec := { name := "wireEncodes", fn := fun _ => fun
  | [d] => { results := [.lit (.bool true)], args := [d] }
  | _ => none }
def wireEncodesRow : OpenClaim := { program := "ytgahffjkaechmaa", sum := "26fae6d815263e7c494c61e7ba24d80a11eae9b11c0e0c50905de04e2bae0e87", func := "ostler/ostlerlaw.WireEncodes", spec := "wireEncodes", unfollowed := true, recurses := true, apart := false }
def WireEncodesSaid : Prop := wireEncodesRow.holds Try.pinned (OpenSpec.ofChange wireEncodesSpec)

/-- ITS FALSE NEIGHBOUR: 'it returns false'. Refute it at one input. -/
def wireEncodesWrong : ChangeSpec := { name := "wireEncodes", fn := fun _ => fun
  | [d] => { results := [.lit (.bool false)], args := [d] }
  | _ => none }
def WireEncodesWrongFalsely : Prop := wireEncodesRow.holds Try.pinned (OpenSpec.ofChange wireEncodesWrong)

/-- 'ostlerlaw.RunSources': WHATEVER THE INPUT: true; the input reads as it did. -/
def runSourcesSpec : ChangeSpec := { name := "runSources", fn := fun _ => fun
  | [d1, d2, d3, d4] => { results := [.lit (.bool true)], args := [d1, d2, d3, d4] }
  | _ => none }
def runSourcesRow : OpenClaim := { program := "ytgahffjkaechmaa", sum := "26fae6d815263e7c494c61e7ba24d80a11eae9b11c0e0c50905de04e2bae0e87", func := "ostler/ostlerlaw.RunSources", spec := "runSources", unfollowed := true, recurses := true, apart := false }
def RunSourcesSaid : Prop := runSourcesRow.holds Try.pinned (OpenSpec.ofChange runSourcesSpec)

/-- ITS FALSE NEIGHBOUR: 'it returns false'. Refute it at one input. -/
def runSourcesWrong : ChangeSpec := { name := "runSources", fn := fun _ => fun
  | [d1, d2, d3, d4] => { results := [.lit (.bool false)], args := [d1, d2, d3, d4] }
  | _ => none }
def RunSourcesWrongFalsely : Prop := runSourcesRow.holds Try.pinned (OpenSpec.ofChange runSourcesWrong)

/-- 'ostlerlaw.MachChecks': WHATEVER THE INPUT: true; the input reads as it did. -/
def machChecksSpec : ChangeSpec := { name := "machChecks", fn := fun _ => fun
  | [d1, d2, d3] => { results := [.lit (.bool true)], args := [d1, d2, d3] }
  | _ => none }
def machChecksRow : OpenClaim := { program := "ytgahffjkaechmaa", sum := "26fae6d815263e7c494c61e7ba24d80a11eae9b11c0e0c50905de04e2bae0e87", func := "ostler/ostlerlaw.MachChecks", spec := "machChecks", unfollowed := true, recurses := true, apart := false }
def MachChecksSaid : Prop := machChecksRow.holds Try.pinned (OpenSpec.ofChange machChecksSpec)

/-- ITS FALSE NEIGHBOUR: 'it returns false'. Refute it at one input. -/
def machChecksWrong : ChangeSpec := { name := "machChecks", fn := fun _ => fun
  | [d1, d2, d3] => { results := [.lit (.bool false)], args := [d1, d2, d3] }
  | _ => none }
def MachChecksWrongFalsely : Prop := machChecksRow.holds Try.pinned (OpenSpec.ofChange machChecksWrong)

/-- 'ostlerlaw.ClaimPrices': WHATEVER THE INPUT: true; the input reads as it did. -/
def claimPricesSpec : ChangeSpec := { name := "claimPrices", fn := fun _ => fun
  | [d1, d2] => { results := [.lit (.bool true)], args := [d1, d2] }
  | _ => none }
def claimPricesRow : OpenClaim := { program := "ytgahffjkaechmaa", sum := "26fae6d815263e7c494c61e7ba24d80a11eae9b11c0e0c50905de04e2bae0e87", func := "ostler/ostlerlaw.ClaimPrices", spec := "claimPrices", unfollowed := true, recurses := true, apart := false }
def ClaimPricesSaid : Prop := claimPricesRow.holds Try.pinned (OpenSpec.ofChange claimPricesSpec)

/-- ITS FALSE NEIGHBOUR: 'it returns false'. Refute it at one input. -/
def claimPricesWrong : ChangeSpec := { name := "claimPrices", fn := fun _ => fun
  | [d1, d2] => { results := [.lit (.bool false)], args := [d1, d2] }
  | _ => none }
def ClaimPricesWrongFalsely : Prop := claimPricesRow.holds Try.pinned (OpenSpec.ofChange claimPricesWrong)

/-- 'ostlerlaw.WireDecodes': WHATEVER THE INPUT: true; the input reads as it did. -/
def wireDecodesSpec : ChangeSpec := { name := "wireDecodes", fn := fun _ => fun
  | [d] => { results := [.lit (.bool true)], args := [d] }
  | _ => none }
def wireDecodesRow : OpenClaim := { program := "ytgahffjkaechmaa", sum := "26fae6d815263e7c494c61e7ba24d80a11eae9b11c0e0c50905de04e2bae0e87", func := "ostler/ostlerlaw.WireDecodes", spec := "wireDecodes", unfollowed := true, recurses := true, apart := false }
def WireDecodesSaid : Prop := wireDecodesRow.holds Try.pinned (OpenSpec.ofChange wireDecodesSpec)

/-- ITS FALSE NEIGHBOUR: 'it returns false'. Refute it at one input. -/
def wireDecodesWrong : ChangeSpec := { name := "wireDecodes", fn := fun _ => fun
  | [d] => { results := [.lit (.bool false)], args := [d] }
  | _ => none }
def WireDecodesWrongFalsely : Prop := wireDecodesRow.holds Try.pinned (OpenSpec.ofChange wireDecodesWrong)

/-- 'ostlerlaw.LiveSets': WHATEVER THE INPUT: true; the input reads as it did. -/
def liveSetsSpec : ChangeSpec := { name := "liveSets", fn := fun _ => fun
  | [d1, d2] => { results := [.lit (.bool true)], args := [d1, d2] }
  | _ => none }
def liveSetsRow : OpenClaim := { program := "ytgahffjkaechmaa", sum := "26fae6d815263e7c494c61e7ba24d80a11eae9b11c0e0c50905de04e2bae0e87", func := "ostler/ostlerlaw.LiveSets", spec := "liveSets", unfollowed := true, recurses := true, apart := false }
def LiveSetsSaid : Prop := liveSetsRow.holds Try.pinned (OpenSpec.ofChange liveSetsSpec)

/-- ITS FALSE NEIGHBOUR: 'it returns false'. Refute it at one input. -/
def liveSetsWrong : ChangeSpec := { name := "liveSets", fn := fun _ => fun
  | [d1, d2] => { results := [.lit (.bool false)], args := [d1, d2] }
  | _ => none }
def LiveSetsWrongFalsely : Prop := liveSetsRow.holds Try.pinned (OpenSpec.ofChange liveSetsWrong)

/-- 'ostlerlaw.MachRuns': WHATEVER THE INPUT: true; the input reads as it did. -/
def machRunsSpec : ChangeSpec := { name := "machRuns", fn := fun _ => fun
  | [d1, d2, d3, d4, d5, d6] => { results := [.lit (.bool true)], args := [d1, d2, d3, d4, d5, d6] }
  | _ => none }
def machRunsRow : OpenClaim := { program := "ytgahffjkaechmaa", sum := "26fae6d815263e7c494c61e7ba24d80a11eae9b11c0e0c50905de04e2bae0e87", func := "ostler/ostlerlaw.MachRuns", spec := "machRuns", unfollowed := true, recurses := true, apart := false }
def MachRunsSaid : Prop := machRunsRow.holds Try.pinned (OpenSpec.ofChange machRunsSpec)

/-- ITS FALSE NEIGHBOUR: 'it returns false'. Refute it at one input. -/
def machRunsWrong : ChangeSpec := { name := "machRuns", fn := fun _ => fun
  | [d1, d2, d3, d4, d5, d6] => { results := [.lit (.bool false)], args := [d1, d2, d3, d4, d5, d6] }
  | _ => none }
def MachRunsWrongFalsely : Prop := machRunsRow.holds Try.pinned (OpenSpec.ofChange machRunsWrong)

/-- 'ostlerlaw.LiveSpans': WHATEVER THE INPUT: true; the input reads as it did. -/
def liveSpansSpec : ChangeSpec := { name := "liveSpans", fn := fun _ => fun
  | [d1, d2] => { results := [.lit (.bool true)], args := [d1, d2] }
  | _ => none }
def liveSpansRow : OpenClaim := { program := "ytgahffjkaechmaa", sum := "26fae6d815263e7c494c61e7ba24d80a11eae9b11c0e0c50905de04e2bae0e87", func := "ostler/ostlerlaw.LiveSpans", spec := "liveSpans", unfollowed := true, recurses := true, apart := false }
def LiveSpansSaid : Prop := liveSpansRow.holds Try.pinned (OpenSpec.ofChange liveSpansSpec)

/-- ITS FALSE NEIGHBOUR: 'it returns false'. Refute it at one input. -/
def liveSpansWrong : ChangeSpec := { name := "liveSpans", fn := fun _ => fun
  | [d1, d2] => { results := [.lit (.bool false)], args := [d1, d2] }
  | _ => none }
def LiveSpansWrongFalsely : Prop := liveSpansRow.holds Try.pinned (OpenSpec.ofChange liveSpansWrong)

/-- 'ostlerlaw.JudgeKnows': WHATEVER THE INPUT: true; the input reads as it did. -/
def judgeKnowsSpec : ChangeSpec := { name := "judgeKnows", fn := fun _ => fun
  | [d1, d2, d3] => { results := [.lit (.bool true)], args := [d1, d2, d3] }
  | _ => none }
def judgeKnowsRow : OpenClaim := { program := "ytgahffjkaechmaa", sum := "26fae6d815263e7c494c61e7ba24d80a11eae9b11c0e0c50905de04e2bae0e87", func := "ostler/ostlerlaw.JudgeKnows", spec := "judgeKnows", unfollowed := true, recurses := true, apart := false }
def JudgeKnowsSaid : Prop := judgeKnowsRow.holds Try.pinned (OpenSpec.ofChange judgeKnowsSpec)

/-- ITS FALSE NEIGHBOUR: 'it returns false'. Refute it at one input. -/
def judgeKnowsWrong : ChangeSpec := { name := "judgeKnows", fn := fun _ => fun
  | [d1, d2, d3] => { results := [.lit (.bool false)], args := [d1, d2, d3] }
  | _ => none }
def JudgeKnowsWrongFalsely : Prop := judgeKnowsRow.holds Try.pinned (OpenSpec.ofChange judgeKnowsWrong)

/-- 'ostlerlaw.JudgeJudges': WHATEVER THE INPUT: true; the input reads as it did. -/
def judgeJudgesSpec : ChangeSpec := { name := "judgeJudges", fn := fun _ => fun
  | [d1, d2, d3] => { results := [.lit (.bool true)], args := [d1, d2, d3] }
  | _ => none }
def judgeJudgesRow : OpenClaim := { program := "ytgahffjkaechmaa", sum := "26fae6d815263e7c494c61e7ba24d80a11eae9b11c0e0c50905de04e2bae0e87", func := "ostler/ostlerlaw.JudgeJudges", spec := "judgeJudges", unfollowed := true, recurses := true, apart := false }
def JudgeJudgesSaid : Prop := judgeJudgesRow.holds Try.pinned (OpenSpec.ofChange judgeJudgesSpec)

/-- ITS FALSE NEIGHBOUR: 'it returns false'. Refute it at one input. -/
def judgeJudgesWrong : ChangeSpec := { name := "judgeJudges", fn := fun _ => fun
  | [d1, d2, d3] => { results := [.lit (.bool false)], args := [d1, d2, d3] }
  | _ => none }
def JudgeJudgesWrongFalsely : Prop := judgeJudgesRow.holds Try.pinned (OpenSpec.ofChange judgeJudgesWrong)

/-- 'ostlerlaw.AllocCounts': WHATEVER THE INPUT: true; the input reads as it did. -/
def allocCountsSpec : ChangeSpec := { name := "allocCounts", fn := fun _ => fun
  | [d1, d2, d3] => { results := [.lit (.bool true)], args := [d1, d2, d3] }
  | _ => none }
def allocCountsRow : OpenClaim := { program := "ytgahffjkaechmaa", sum := "26fae6d815263e7c494c61e7ba24d80a11eae9b11c0e0c50905de04e2bae0e87", func := "ostler/ostlerlaw.AllocCounts", spec := "allocCounts", unfollowed := true, recurses := true, apart := false }
def AllocCountsSaid : Prop := allocCountsRow.holds Try.pinned (OpenSpec.ofChange allocCountsSpec)

/-- ITS FALSE NEIGHBOUR: 'it returns false'. Refute it at one input. -/
def allocCountsWrong : ChangeSpec := { name := "allocCounts", fn := fun _ => fun
  | [d1, d2, d3] => { results := [.lit (.bool false)], args := [d1, d2, d3] }
  | _ => none }
def AllocCountsWrongFalsely : Prop := allocCountsRow.holds Try.pinned (OpenSpec.ofChange allocCountsWrong)

/- THE SECOND FORM. 'bulk': how many values and letters a reading holds, each counted each time it is reached (what is shared counts as often as it is met; a slice's spare places count too). A statement '..UptoSaid' is the law's where the arguments, and the package variables that the reading takes, are together of bulk at most 1048576: NARROWER than '..Said'. Prove '..Said' where nothing that the law and all that it calls make is longer than what came in: it says more and counts as full. Else prove '..UptoSaid'. A law counts once. -/
mutual
def uptoBulk {H : Type} : DataW H → Nat
  | .lit (.string bytes) => bytes.length + 1
  | .lit _ => 1
  | .nil => 1
  | .ptr d => uptoBulk d + 1
  | .slice elems spare => uptoBulkAll elems + uptoBulkAll spare + 1
  | .agg parts => uptoBulkAll parts + 1
  | .iface _ d => uptoBulk d + 1
  | .map entries => uptoBulkEntries entries + 1
  | .held _ => 1
def uptoBulkAll {H : Type} : List (DataW H) → Nat
  | [] => 0
  | d :: r => uptoBulk d + uptoBulkAll r
def uptoBulkEntries {H : Type} : List (Lit × DataW H) → Nat
  | [] => 0
  | x :: r => uptoBulkEntry x + uptoBulkEntries r
def uptoBulkEntry {H : Type} : Lit × DataW H → Nat
  | (.string bytes, d) => bytes.length + uptoBulk d + 1
  | (_, d) => uptoBulk d + 1
 end
def uptoSmall : (H : Type) → List (DataW H) → Bool := fun _ ds => decide (uptoBulkAll ds ≤ 1048576)
def OpenSpec.upto (s : _root_.Go.ChangeSpec) : _root_.Go.OpenSpec := { _root_.Go.OpenSpec.ofChange s with cond := some uptoSmall }

/-- 'ostlerlaw.FlowDominators', WHERE WHAT IT READS IS OF BULK AT MOST 1048576: true; the input reads as it did. -/
def flowDominatorsUptoRow : OpenClaim := { program := "ytgahffjkaechmaa", sum := "26fae6d815263e7c494c61e7ba24d80a11eae9b11c0e0c50905de04e2bae0e87", func := "ostler/ostlerlaw.FlowDominators", spec := "flowDominators", unfollowed := true, recurses := true, apart := false, narrowed := true }
def FlowDominatorsUptoSaid : Prop := flowDominatorsUptoRow.holds Try.pinned (OpenSpec.upto flowDominatorsSpec)

/-- 'ostlerlaw.WireEncodes', WHERE WHAT IT READS IS OF BULK AT MOST 1048576: true; the input reads as it did. -/
def wireEncodesUptoRow : OpenClaim := { program := "ytgahffjkaechmaa", sum := "26fae6d815263e7c494c61e7ba24d80a11eae9b11c0e0c50905de04e2bae0e87", func := "ostler/ostlerlaw.WireEncodes", spec := "wireEncodes", unfollowed := true, recurses := true, apart := false, narrowed := true }
def WireEncodesUptoSaid : Prop := wireEncodesUptoRow.holds Try.pinned (OpenSpec.upto wireEncodesSpec)

/-- 'ostlerlaw.RunSources', WHERE WHAT IT READS IS OF BULK AT MOST 1048576: true; the input reads as it did. -/
def runSourcesUptoRow : OpenClaim := { program := "ytgahffjkaechmaa", sum := "26fae6d815263e7c494c61e7ba24d80a11eae9b11c0e0c50905de04e2bae0e87", func := "ostler/ostlerlaw.RunSources", spec := "runSources", unfollowed := true, recurses := true, apart := false, narrowed := true }
def RunSourcesUptoSaid : Prop := runSourcesUptoRow.holds Try.pinned (OpenSpec.upto runSourcesSpec)

/-- 'ostlerlaw.MachChecks', WHERE WHAT IT READS IS OF BULK AT MOST 1048576: true; the input reads as it did. -/
def machChecksUptoRow : OpenClaim := { program := "ytgahffjkaechmaa", sum := "26fae6d815263e7c494c61e7ba24d80a11eae9b11c0e0c50905de04e2bae0e87", func := "ostler/ostlerlaw.MachChecks", spec := "machChecks", unfollowed := true, recurses := true, apart := false, narrowed := true }
def MachChecksUptoSaid : Prop := machChecksUptoRow.holds Try.pinned (OpenSpec.upto machChecksSpec)

/-- 'ostlerlaw.ClaimPrices', WHERE WHAT IT READS IS OF BULK AT MOST 1048576: true; the input reads as it did. -/
def claimPricesUptoRow : OpenClaim := { program := "ytgahffjkaechmaa", sum := "26fae6d815263e7c494c61e7ba24d80a11eae9b11c0e0c50905de04e2bae0e87", func := "ostler/ostlerlaw.ClaimPrices", spec := "claimPrices", unfollowed := true, recurses := true, apart := false, narrowed := true }
def ClaimPricesUptoSaid : Prop := claimPricesUptoRow.holds Try.pinned (OpenSpec.upto claimPricesSpec)

/-- 'ostlerlaw.WireDecodes', WHERE WHAT IT READS IS OF BULK AT MOST 1048576: true; the input reads as it did. -/
def wireDecodesUptoRow : OpenClaim := { program := "ytgahffjkaechmaa", sum := "26fae6d815263e7c494c61e7ba24d80a11eae9b11c0e0c50905de04e2bae0e87", func := "ostler/ostlerlaw.WireDecodes", spec := "wireDecodes", unfollowed := true, recurses := true, apart := false, narrowed := true }
def WireDecodesUptoSaid : Prop := wireDecodesUptoRow.holds Try.pinned (OpenSpec.upto wireDecodesSpec)

/-- 'ostlerlaw.LiveSets', WHERE WHAT IT READS IS OF BULK AT MOST 1048576: true; the input reads as it did. -/
def liveSetsUptoRow : OpenClaim := { program := "ytgahffjkaechmaa", sum := "26fae6d815263e7c494c61e7ba24d80a11eae9b11c0e0c50905de04e2bae0e87", func := "ostler/ostlerlaw.LiveSets", spec := "liveSets", unfollowed := true, recurses := true, apart := false, narrowed := true }
def LiveSetsUptoSaid : Prop := liveSetsUptoRow.holds Try.pinned (OpenSpec.upto liveSetsSpec)

/-- 'ostlerlaw.MachRuns', WHERE WHAT IT READS IS OF BULK AT MOST 1048576: true; the input reads as it did. -/
def machRunsUptoRow : OpenClaim := { program := "ytgahffjkaechmaa", sum := "26fae6d815263e7c494c61e7ba24d80a11eae9b11c0e0c50905de04e2bae0e87", func := "ostler/ostlerlaw.MachRuns", spec := "machRuns", unfollowed := true, recurses := true, apart := false, narrowed := true }
def MachRunsUptoSaid : Prop := machRunsUptoRow.holds Try.pinned (OpenSpec.upto machRunsSpec)

/-- 'ostlerlaw.LiveSpans', WHERE WHAT IT READS IS OF BULK AT MOST 1048576: true; the input reads as it did. -/
def liveSpansUptoRow : OpenClaim := { program := "ytgahffjkaechmaa", sum := "26fae6d815263e7c494c61e7ba24d80a11eae9b11c0e0c50905de04e2bae0e87", func := "ostler/ostlerlaw.LiveSpans", spec := "liveSpans", unfollowed := true, recurses := true, apart := false, narrowed := true }
def LiveSpansUptoSaid : Prop := liveSpansUptoRow.holds Try.pinned (OpenSpec.upto liveSpansSpec)

/-- 'ostlerlaw.JudgeKnows', WHERE WHAT IT READS IS OF BULK AT MOST 1048576: true; the input reads as it did. -/
def judgeKnowsUptoRow : OpenClaim := { program := "ytgahffjkaechmaa", sum := "26fae6d815263e7c494c61e7ba24d80a11eae9b11c0e0c50905de04e2bae0e87", func := "ostler/ostlerlaw.JudgeKnows", spec := "judgeKnows", unfollowed := true, recurses := true, apart := false, narrowed := true }
def JudgeKnowsUptoSaid : Prop := judgeKnowsUptoRow.holds Try.pinned (OpenSpec.upto judgeKnowsSpec)

/-- 'ostlerlaw.JudgeJudges', WHERE WHAT IT READS IS OF BULK AT MOST 1048576: true; the input reads as it did. -/
def judgeJudgesUptoRow : OpenClaim := { program := "ytgahffjkaechmaa", sum := "26fae6d815263e7c494c61e7ba24d80a11eae9b11c0e0c50905de04e2bae0e87", func := "ostler/ostlerlaw.JudgeJudges", spec := "judgeJudges", unfollowed := true, recurses := true, apart := false, narrowed := true }
def JudgeJudgesUptoSaid : Prop := judgeJudgesUptoRow.holds Try.pinned (OpenSpec.upto judgeJudgesSpec)

/-- 'ostlerlaw.AllocCounts', WHERE WHAT IT READS IS OF BULK AT MOST 1048576: true; the input reads as it did. -/
def allocCountsUptoRow : OpenClaim := { program := "ytgahffjkaechmaa", sum := "26fae6d815263e7c494c61e7ba24d80a11eae9b11c0e0c50905de04e2bae0e87", func := "ostler/ostlerlaw.AllocCounts", spec := "allocCounts", unfollowed := true, recurses := true, apart := false, narrowed := true }
def AllocCountsUptoSaid : Prop := allocCountsUptoRow.holds Try.pinned (OpenSpec.upto allocCountsSpec)

end Rows
end Go.Proofs.Ytgahffjkaechmaa
