/-
  No cell of these rows narrows 'for every input' (looked for: loops, veiled, ifaces, maps, wideKeys, modest, calm, conditions, laid).
  DERIVED. THE GIVEN ROWS OF THIS SEAT. 11 by the template 'for every input the law returns true; each argument reads behind the call as it read before'; 0 by the template 'total and deterministic' (their statements: YtpmbbanoiipepaaTotals.lean).
  GIVEN WITH THE SEED: the statements are not yours to turn. If you find one false, say at which input.
  Laid BY PROGRAM, IN A SANDBOX (cutbox-rows.mjs): the forced cells as the released guide's own fill.sh prints them over the translation 8765813e36028eca… (all of the seat's roots in one cut). By AI agents, Wed Nov 11 2026. No macro, syntax, notation, axiom, sorry.
-/
import Derived.Test.YtpmbbanoiipepaaChecked
import GoSem.Claim
import GoSem.ClaimJoined
import GoSem.ClaimMapViews
import Derived.JoinedTies
import Derived.KernelRfl
namespace Go.Proofs.Ytpmbbanoiipepaa
/- THE CELL 'sum', in the pinned program and in every row, IS THE sha256 OF THE DUMP (.gsa) THAT YtpmbbanoiipepaaProg.lean LOADS. Nothing in Lean hashes anything: it is a label: what it is worth is what the hold of that sum in a sandbox is worth. -/
noncomputable def Try.pinned : Pinned := { name := "ytpmbbanoiipepaa", sum := "8765813e36028eca453f73af7bc732c363ced1daf7e85ea9b547ef2fda66a229", checked := Try.checked }
namespace Rows
def none {H : Type} : Left H := { results := [], args := [] }

/-- 'ostlerlaw.OrderOrders': WHATEVER THE INPUT: true; the input reads as it did. -/
def orderOrdersSpec : ChangeSpec := { name := "orderOrders", fn := fun _ => fun
  | [d1, d2, d3, d4] => { results := [.lit (.bool true)], args := [d1, d2, d3, d4] }
  | _ => none }
def orderOrdersRow : OpenClaim := { program := "ytpmbbanoiipepaa", sum := "8765813e36028eca453f73af7bc732c363ced1daf7e85ea9b547ef2fda66a229", func := "ostler/ostlerlaw.OrderOrders", spec := "orderOrders", unfollowed := true, recurses := true, plainKeys := false, apart := false }
def OrderOrdersSaid : Prop := orderOrdersRow.holds Try.pinned (OpenSpec.ofChange orderOrdersSpec)

/-- ITS FALSE NEIGHBOUR: 'it returns false'. Refute it at one input. -/
def orderOrdersWrong : ChangeSpec := { name := "orderOrders", fn := fun _ => fun
  | [d1, d2, d3, d4] => { results := [.lit (.bool false)], args := [d1, d2, d3, d4] }
  | _ => none }
def OrderOrdersWrongFalsely : Prop := orderOrdersRow.holds Try.pinned (OpenSpec.ofChange orderOrdersWrong)

/-- 'ostlerlaw.WireEncodes': WHATEVER THE INPUT: true; the input reads as it did. -/
def wireEncodesSpec : ChangeSpec := { name := "wireEncodes", fn := fun _ => fun
  | [d] => { results := [.lit (.bool true)], args := [d] }
  | _ => none }
def wireEncodesRow : OpenClaim := { program := "ytpmbbanoiipepaa", sum := "8765813e36028eca453f73af7bc732c363ced1daf7e85ea9b547ef2fda66a229", func := "ostler/ostlerlaw.WireEncodes", spec := "wireEncodes", unfollowed := true, recurses := true, plainKeys := false, apart := false }
def WireEncodesSaid : Prop := wireEncodesRow.holds Try.pinned (OpenSpec.ofChange wireEncodesSpec)

/-- ITS FALSE NEIGHBOUR: 'it returns false'. Refute it at one input. -/
def wireEncodesWrong : ChangeSpec := { name := "wireEncodes", fn := fun _ => fun
  | [d] => { results := [.lit (.bool false)], args := [d] }
  | _ => none }
def WireEncodesWrongFalsely : Prop := wireEncodesRow.holds Try.pinned (OpenSpec.ofChange wireEncodesWrong)

/-- 'ostlerlaw.RunSources': WHATEVER THE INPUT: true; the input reads as it did. -/
def runSourcesSpec : ChangeSpec := { name := "runSources", fn := fun _ => fun
  | [d1, d2, d3, d4] => { results := [.lit (.bool true)], args := [d1, d2, d3, d4] }
  | _ => none }
def runSourcesRow : OpenClaim := { program := "ytpmbbanoiipepaa", sum := "8765813e36028eca453f73af7bc732c363ced1daf7e85ea9b547ef2fda66a229", func := "ostler/ostlerlaw.RunSources", spec := "runSources", unfollowed := true, recurses := true, plainKeys := false, apart := false }
def RunSourcesSaid : Prop := runSourcesRow.holds Try.pinned (OpenSpec.ofChange runSourcesSpec)

/-- ITS FALSE NEIGHBOUR: 'it returns false'. Refute it at one input. -/
def runSourcesWrong : ChangeSpec := { name := "runSources", fn := fun _ => fun
  | [d1, d2, d3, d4] => { results := [.lit (.bool false)], args := [d1, d2, d3, d4] }
  | _ => none }
def RunSourcesWrongFalsely : Prop := runSourcesRow.holds Try.pinned (OpenSpec.ofChange runSourcesWrong)

/-- 'ostlerlaw.MachChecks': WHATEVER THE INPUT: true; the input reads as it did. -/
def machChecksSpec : ChangeSpec := { name := "machChecks", fn := fun _ => fun
  | [d1, d2, d3] => { results := [.lit (.bool true)], args := [d1, d2, d3] }
  | _ => none }
def machChecksRow : OpenClaim := { program := "ytpmbbanoiipepaa", sum := "8765813e36028eca453f73af7bc732c363ced1daf7e85ea9b547ef2fda66a229", func := "ostler/ostlerlaw.MachChecks", spec := "machChecks", unfollowed := true, recurses := true, plainKeys := false, apart := false }
def MachChecksSaid : Prop := machChecksRow.holds Try.pinned (OpenSpec.ofChange machChecksSpec)

/-- ITS FALSE NEIGHBOUR: 'it returns false'. Refute it at one input. -/
def machChecksWrong : ChangeSpec := { name := "machChecks", fn := fun _ => fun
  | [d1, d2, d3] => { results := [.lit (.bool false)], args := [d1, d2, d3] }
  | _ => none }
def MachChecksWrongFalsely : Prop := machChecksRow.holds Try.pinned (OpenSpec.ofChange machChecksWrong)

/-- 'ostlerlaw.WireDecodes': WHATEVER THE INPUT: true; the input reads as it did. -/
def wireDecodesSpec : ChangeSpec := { name := "wireDecodes", fn := fun _ => fun
  | [d] => { results := [.lit (.bool true)], args := [d] }
  | _ => none }
def wireDecodesRow : OpenClaim := { program := "ytpmbbanoiipepaa", sum := "8765813e36028eca453f73af7bc732c363ced1daf7e85ea9b547ef2fda66a229", func := "ostler/ostlerlaw.WireDecodes", spec := "wireDecodes", unfollowed := true, recurses := true, plainKeys := false, apart := false }
def WireDecodesSaid : Prop := wireDecodesRow.holds Try.pinned (OpenSpec.ofChange wireDecodesSpec)

/-- ITS FALSE NEIGHBOUR: 'it returns false'. Refute it at one input. -/
def wireDecodesWrong : ChangeSpec := { name := "wireDecodes", fn := fun _ => fun
  | [d] => { results := [.lit (.bool false)], args := [d] }
  | _ => none }
def WireDecodesWrongFalsely : Prop := wireDecodesRow.holds Try.pinned (OpenSpec.ofChange wireDecodesWrong)

/-- 'ostlerlaw.LiveSets': WHATEVER THE INPUT: true; the input reads as it did. -/
def liveSetsSpec : ChangeSpec := { name := "liveSets", fn := fun _ => fun
  | [d1, d2] => { results := [.lit (.bool true)], args := [d1, d2] }
  | _ => none }
def liveSetsRow : OpenClaim := { program := "ytpmbbanoiipepaa", sum := "8765813e36028eca453f73af7bc732c363ced1daf7e85ea9b547ef2fda66a229", func := "ostler/ostlerlaw.LiveSets", spec := "liveSets", unfollowed := true, recurses := true, plainKeys := false, apart := false }
def LiveSetsSaid : Prop := liveSetsRow.holds Try.pinned (OpenSpec.ofChange liveSetsSpec)

/-- ITS FALSE NEIGHBOUR: 'it returns false'. Refute it at one input. -/
def liveSetsWrong : ChangeSpec := { name := "liveSets", fn := fun _ => fun
  | [d1, d2] => { results := [.lit (.bool false)], args := [d1, d2] }
  | _ => none }
def LiveSetsWrongFalsely : Prop := liveSetsRow.holds Try.pinned (OpenSpec.ofChange liveSetsWrong)

/-- 'ostlerlaw.MachRuns': WHATEVER THE INPUT: true; the input reads as it did. -/
def machRunsSpec : ChangeSpec := { name := "machRuns", fn := fun _ => fun
  | [d1, d2, d3, d4, d5, d6] => { results := [.lit (.bool true)], args := [d1, d2, d3, d4, d5, d6] }
  | _ => none }
def machRunsRow : OpenClaim := { program := "ytpmbbanoiipepaa", sum := "8765813e36028eca453f73af7bc732c363ced1daf7e85ea9b547ef2fda66a229", func := "ostler/ostlerlaw.MachRuns", spec := "machRuns", unfollowed := true, recurses := true, plainKeys := false, apart := false }
def MachRunsSaid : Prop := machRunsRow.holds Try.pinned (OpenSpec.ofChange machRunsSpec)

/-- ITS FALSE NEIGHBOUR: 'it returns false'. Refute it at one input. -/
def machRunsWrong : ChangeSpec := { name := "machRuns", fn := fun _ => fun
  | [d1, d2, d3, d4, d5, d6] => { results := [.lit (.bool false)], args := [d1, d2, d3, d4, d5, d6] }
  | _ => none }
def MachRunsWrongFalsely : Prop := machRunsRow.holds Try.pinned (OpenSpec.ofChange machRunsWrong)

/-- 'ostlerlaw.LiveSpans': WHATEVER THE INPUT: true; the input reads as it did. -/
def liveSpansSpec : ChangeSpec := { name := "liveSpans", fn := fun _ => fun
  | [d1, d2] => { results := [.lit (.bool true)], args := [d1, d2] }
  | _ => none }
def liveSpansRow : OpenClaim := { program := "ytpmbbanoiipepaa", sum := "8765813e36028eca453f73af7bc732c363ced1daf7e85ea9b547ef2fda66a229", func := "ostler/ostlerlaw.LiveSpans", spec := "liveSpans", unfollowed := true, recurses := true, plainKeys := false, apart := false }
def LiveSpansSaid : Prop := liveSpansRow.holds Try.pinned (OpenSpec.ofChange liveSpansSpec)

/-- ITS FALSE NEIGHBOUR: 'it returns false'. Refute it at one input. -/
def liveSpansWrong : ChangeSpec := { name := "liveSpans", fn := fun _ => fun
  | [d1, d2] => { results := [.lit (.bool false)], args := [d1, d2] }
  | _ => none }
def LiveSpansWrongFalsely : Prop := liveSpansRow.holds Try.pinned (OpenSpec.ofChange liveSpansWrong)

/-- 'ostlerlaw.JudgeKnows': WHATEVER THE INPUT: true; the input reads as it did. -/
def judgeKnowsSpec : ChangeSpec := { name := "judgeKnows", fn := fun _ => fun
  | [d1, d2, d3] => { results := [.lit (.bool true)], args := [d1, d2, d3] }
  | _ => none }
def judgeKnowsRow : OpenClaim := { program := "ytpmbbanoiipepaa", sum := "8765813e36028eca453f73af7bc732c363ced1daf7e85ea9b547ef2fda66a229", func := "ostler/ostlerlaw.JudgeKnows", spec := "judgeKnows", unfollowed := true, recurses := true, plainKeys := false, apart := false }
def JudgeKnowsSaid : Prop := judgeKnowsRow.holds Try.pinned (OpenSpec.ofChange judgeKnowsSpec)

/-- ITS FALSE NEIGHBOUR: 'it returns false'. Refute it at one input. -/
def judgeKnowsWrong : ChangeSpec := { name := "judgeKnows", fn := fun _ => fun
  | [d1, d2, d3] => { results := [.lit (.bool false)], args := [d1, d2, d3] }
  | _ => none }
def JudgeKnowsWrongFalsely : Prop := judgeKnowsRow.holds Try.pinned (OpenSpec.ofChange judgeKnowsWrong)

/-- 'ostlerlaw.JudgeJudges': WHATEVER THE INPUT: true; the input reads as it did. -/
def judgeJudgesSpec : ChangeSpec := { name := "judgeJudges", fn := fun _ => fun
  | [d1, d2, d3] => { results := [.lit (.bool true)], args := [d1, d2, d3] }
  | _ => none }
def judgeJudgesRow : OpenClaim := { program := "ytpmbbanoiipepaa", sum := "8765813e36028eca453f73af7bc732c363ced1daf7e85ea9b547ef2fda66a229", func := "ostler/ostlerlaw.JudgeJudges", spec := "judgeJudges", unfollowed := true, recurses := true, plainKeys := false, apart := false }
def JudgeJudgesSaid : Prop := judgeJudgesRow.holds Try.pinned (OpenSpec.ofChange judgeJudgesSpec)

/-- ITS FALSE NEIGHBOUR: 'it returns false'. Refute it at one input. -/
def judgeJudgesWrong : ChangeSpec := { name := "judgeJudges", fn := fun _ => fun
  | [d1, d2, d3] => { results := [.lit (.bool false)], args := [d1, d2, d3] }
  | _ => none }
def JudgeJudgesWrongFalsely : Prop := judgeJudgesRow.holds Try.pinned (OpenSpec.ofChange judgeJudgesWrong)

/-- 'ostlerlaw.AllocCounts': WHATEVER THE INPUT: true; the input reads as it did. -/
def allocCountsSpec : ChangeSpec := { name := "allocCounts", fn := fun _ => fun
  | [d1, d2, d3] => { results := [.lit (.bool true)], args := [d1, d2, d3] }
  | _ => none }
def allocCountsRow : OpenClaim := { program := "ytpmbbanoiipepaa", sum := "8765813e36028eca453f73af7bc732c363ced1daf7e85ea9b547ef2fda66a229", func := "ostler/ostlerlaw.AllocCounts", spec := "allocCounts", unfollowed := true, recurses := true, plainKeys := false, apart := false }
def AllocCountsSaid : Prop := allocCountsRow.holds Try.pinned (OpenSpec.ofChange allocCountsSpec)

/-- ITS FALSE NEIGHBOUR: 'it returns false'. Refute it at one input. -/
def allocCountsWrong : ChangeSpec := { name := "allocCounts", fn := fun _ => fun
  | [d1, d2, d3] => { results := [.lit (.bool false)], args := [d1, d2, d3] }
  | _ => none }
def AllocCountsWrongFalsely : Prop := allocCountsRow.holds Try.pinned (OpenSpec.ofChange allocCountsWrong)

/- THE SECOND FORM. 'bulk': how many values and letters a reading holds, each counted each time it is reached (what is shared counts as often as it is met; a slice's spare places count too). A statement '..UptoSaid' is the law's where the arguments, and the package variables that the reading takes, are together of bulk at most 1048576: NARROWER than '..Said'. Prove '..Said' where nothing that the law and all that it calls make is longer than what came in: it says more and counts as full. Else prove '..UptoSaid'. A law counts once. -/
mutual
def uptoBulk {H : Type} : DataW H → Nat
  | .lit (.string bytes) => bytes.length + 1
  | .lit _ => 1
  | .nil => 1
  | .ptr d => uptoBulk d + 1
  | .slice elems spare => uptoBulkAll elems + uptoBulkAll spare + 1
  | .agg parts => uptoBulkAll parts + 1
  | .iface _ d => uptoBulk d + 1
  | .map entries => uptoBulkEntries entries + 1
  | .held _ => 1
def uptoBulkAll {H : Type} : List (DataW H) → Nat
  | [] => 0
  | d :: r => uptoBulk d + uptoBulkAll r
def uptoBulkEntries {H : Type} : List (Lit × DataW H) → Nat
  | [] => 0
  | x :: r => uptoBulkEntry x + uptoBulkEntries r
def uptoBulkEntry {H : Type} : Lit × DataW H → Nat
  | (.string bytes, d) => bytes.length + uptoBulk d + 1
  | (_, d) => uptoBulk d + 1
 end
def uptoSmall : (H : Type) → List (DataW H) → Bool := fun _ ds => decide (uptoBulkAll ds ≤ 1048576)
def OpenSpec.upto (s : _root_.Go.ChangeSpec) : _root_.Go.OpenSpec := { _root_.Go.OpenSpec.ofChange s with cond := some uptoSmall }

/-- 'ostlerlaw.OrderOrders', WHERE WHAT IT READS IS OF BULK AT MOST 1048576: true; the input reads as it did. -/
def orderOrdersUptoRow : OpenClaim := { program := "ytpmbbanoiipepaa", sum := "8765813e36028eca453f73af7bc732c363ced1daf7e85ea9b547ef2fda66a229", func := "ostler/ostlerlaw.OrderOrders", spec := "orderOrders", unfollowed := true, recurses := true, plainKeys := false, apart := false, narrowed := true }
def OrderOrdersUptoSaid : Prop := orderOrdersUptoRow.holds Try.pinned (OpenSpec.upto orderOrdersSpec)

/-- 'ostlerlaw.WireEncodes', WHERE WHAT IT READS IS OF BULK AT MOST 1048576: true; the input reads as it did. -/
def wireEncodesUptoRow : OpenClaim := { program := "ytpmbbanoiipepaa", sum := "8765813e36028eca453f73af7bc732c363ced1daf7e85ea9b547ef2fda66a229", func := "ostler/ostlerlaw.WireEncodes", spec := "wireEncodes", unfollowed := true, recurses := true, plainKeys := false, apart := false, narrowed := true }
def WireEncodesUptoSaid : Prop := wireEncodesUptoRow.holds Try.pinned (OpenSpec.upto wireEncodesSpec)

/-- 'ostlerlaw.RunSources', WHERE WHAT IT READS IS OF BULK AT MOST 1048576: true; the input reads as it did. -/
def runSourcesUptoRow : OpenClaim := { program := "ytpmbbanoiipepaa", sum := "8765813e36028eca453f73af7bc732c363ced1daf7e85ea9b547ef2fda66a229", func := "ostler/ostlerlaw.RunSources", spec := "runSources", unfollowed := true, recurses := true, plainKeys := false, apart := false, narrowed := true }
def RunSourcesUptoSaid : Prop := runSourcesUptoRow.holds Try.pinned (OpenSpec.upto runSourcesSpec)

/-- 'ostlerlaw.MachChecks', WHERE WHAT IT READS IS OF BULK AT MOST 1048576: true; the input reads as it did. -/
def machChecksUptoRow : OpenClaim := { program := "ytpmbbanoiipepaa", sum := "8765813e36028eca453f73af7bc732c363ced1daf7e85ea9b547ef2fda66a229", func := "ostler/ostlerlaw.MachChecks", spec := "machChecks", unfollowed := true, recurses := true, plainKeys := false, apart := false, narrowed := true }
def MachChecksUptoSaid : Prop := machChecksUptoRow.holds Try.pinned (OpenSpec.upto machChecksSpec)

/-- 'ostlerlaw.WireDecodes', WHERE WHAT IT READS IS OF BULK AT MOST 1048576: true; the input reads as it did. -/
def wireDecodesUptoRow : OpenClaim := { program := "ytpmbbanoiipepaa", sum := "8765813e36028eca453f73af7bc732c363ced1daf7e85ea9b547ef2fda66a229", func := "ostler/ostlerlaw.WireDecodes", spec := "wireDecodes", unfollowed := true, recurses := true, plainKeys := false, apart := false, narrowed := true }
def WireDecodesUptoSaid : Prop := wireDecodesUptoRow.holds Try.pinned (OpenSpec.upto wireDecodesSpec)

/-- 'ostlerlaw.LiveSets', WHERE WHAT IT READS IS OF BULK AT MOST 1048576: true; the input reads as it did. -/
def liveSetsUptoRow : OpenClaim := { program := "ytpmbbanoiipepaa", sum := "8765813e36028eca453f73af7bc732c363ced1daf7e85ea9b547ef2fda66a229", func := "ostler/ostlerlaw.LiveSets", spec := "liveSets", unfollowed := true, recurses := true, plainKeys := false, apart := false, narrowed := true }
def LiveSetsUptoSaid : Prop := liveSetsUptoRow.holds Try.pinned (OpenSpec.upto liveSetsSpec)

/-- 'ostlerlaw.MachRuns', WHERE WHAT IT READS IS OF BULK AT MOST 1048576: true; the input reads as it did. -/
def machRunsUptoRow : OpenClaim := { program := "ytpmbbanoiipepaa", sum := "8765813e36028eca453f73af7bc732c363ced1daf7e85ea9b547ef2fda66a229", func := "ostler/ostlerlaw.MachRuns", spec := "machRuns", unfollowed := true, recurses := true, plainKeys := false, apart := false, narrowed := true }
def MachRunsUptoSaid : Prop := machRunsUptoRow.holds Try.pinned (OpenSpec.upto machRunsSpec)

/-- 'ostlerlaw.LiveSpans', WHERE WHAT IT READS IS OF BULK AT MOST 1048576: true; the input reads as it did. -/
def liveSpansUptoRow : OpenClaim := { program := "ytpmbbanoiipepaa", sum := "8765813e36028eca453f73af7bc732c363ced1daf7e85ea9b547ef2fda66a229", func := "ostler/ostlerlaw.LiveSpans", spec := "liveSpans", unfollowed := true, recurses := true, plainKeys := false, apart := false, narrowed := true }
def LiveSpansUptoSaid : Prop := liveSpansUptoRow.holds Try.pinned (OpenSpec.upto liveSpansSpec)

/-- 'ostlerlaw.JudgeKnows', WHERE WHAT IT READS IS OF BULK AT MOST 1048576: true; the input reads as it did. -/
def judgeKnowsUptoRow : OpenClaim := { program := "ytpmbbanoiipepaa", sum := "8765813e36028eca453f73af7bc732c363ced1daf7e85ea9b547ef2fda66a229", func := "ostler/ostlerlaw.JudgeKnows", spec := "judgeKnows", unfollowed := true, recurses := true, plainKeys := false, apart := false, narrowed := true }
def JudgeKnowsUptoSaid : Prop := judgeKnowsUptoRow.holds Try.pinned (OpenSpec.upto judgeKnowsSpec)

/-- 'ostlerlaw.JudgeJudges', WHERE WHAT IT READS IS OF BULK AT MOST 1048576: true; the input reads as it did. -/
def judgeJudgesUptoRow : OpenClaim := { program := "ytpmbbanoiipepaa", sum := "8765813e36028eca453f73af7bc732c363ced1daf7e85ea9b547ef2fda66a229", func := "ostler/ostlerlaw.JudgeJudges", spec := "judgeJudges", unfollowed := true, recurses := true, plainKeys := false, apart := false, narrowed := true }
def JudgeJudgesUptoSaid : Prop := judgeJudgesUptoRow.holds Try.pinned (OpenSpec.upto judgeJudgesSpec)

/-- 'ostlerlaw.AllocCounts', WHERE WHAT IT READS IS OF BULK AT MOST 1048576: true; the input reads as it did. -/
def allocCountsUptoRow : OpenClaim := { program := "ytpmbbanoiipepaa", sum := "8765813e36028eca453f73af7bc732c363ced1daf7e85ea9b547ef2fda66a229", func := "ostler/ostlerlaw.AllocCounts", spec := "allocCounts", unfollowed := true, recurses := true, plainKeys := false, apart := false, narrowed := true }
def AllocCountsUptoSaid : Prop := allocCountsUptoRow.holds Try.pinned (OpenSpec.upto allocCountsSpec)

end Rows
end Go.Proofs.Ytpmbbanoiipepaa
