/-
  No cell of these rows narrows 'for every input' (looked for: loops, veiled, ifaces, maps, wideKeys, modest, calm, conditions, laid).
  DERIVED. THE GIVEN ROWS OF THIS SEAT. 7 by the template 'for every input the law returns true; each argument reads behind the call as it read before'; 0 by the template 'total and deterministic' (their statements: YtjjgjflbhpoloaaTotals.lean).
  GIVEN WITH THE SEED: the statements are not yours to turn. If you find one false, say at which input.
  Laid BY PROGRAM, IN A SANDBOX (cutbox-rows.mjs): the forced cells as the released guide's own fill.sh prints them over the translation e5b9251c9cf31517… (all of the seat's roots in one cut). By AI agents, Wed Nov 11 2026. No macro, syntax, notation, axiom, sorry.
-/
import Derived.Test.YtjjgjflbhpoloaaChecked
import GoSem.Claim
import GoSem.ClaimJoined
import GoSem.ClaimMapViews
import Derived.JoinedTies
import Derived.KernelRfl
namespace Go.Proofs.Ytjjgjflbhpoloaa
/- THE CELL 'sum', in the pinned program and in every row, IS THE sha256 OF THE DUMP (.gsa) THAT YtjjgjflbhpoloaaProg.lean LOADS. Nothing in Lean hashes anything: it is a label: what it is worth is what the hold of that sum in a sandbox is worth. -/
noncomputable def Try.pinned : Pinned := { name := "ytjjgjflbhpoloaa", sum := "e5b9251c9cf31517a8520715a1854e4541f2bf25bf48ddbaa32477f0b4889835", checked := Try.checked }
namespace Rows
def none {H : Type} : Left H := { results := [], args := [] }

/-- 'ostlerlaw.OrderOrders': WHATEVER THE INPUT: true; the input reads as it did. -/
def orderOrdersSpec : ChangeSpec := { name := "orderOrders", fn := fun _ => fun
  | [d1, d2, d3, d4] => { results := [.lit (.bool true)], args := [d1, d2, d3, d4] }
  | _ => none }
def orderOrdersRow : OpenClaim := { program := "ytjjgjflbhpoloaa", sum := "e5b9251c9cf31517a8520715a1854e4541f2bf25bf48ddbaa32477f0b4889835", func := "ostler/ostlerlaw.OrderOrders", spec := "orderOrders", unfollowed := true, recurses := true, plainKeys := false, apart := false }
def OrderOrdersSaid : Prop := orderOrdersRow.holds Try.pinned (OpenSpec.ofChange orderOrdersSpec)

/-- ITS FALSE NEIGHBOUR: 'it returns false'. Refute it at one input. -/
def orderOrdersWrong : ChangeSpec := { name := "orderOrders", fn := fun _ => fun
  | [d1, d2, d3, d4] => { results := [.lit (.bool false)], args := [d1, d2, d3, d4] }
  | _ => none }
def OrderOrdersWrongFalsely : Prop := orderOrdersRow.holds Try.pinned (OpenSpec.ofChange orderOrdersWrong)

/-- 'ostlerlaw.LiveSets': WHATEVER THE INPUT: true; the input reads as it did. -/
def liveSetsSpec : ChangeSpec := { name := "liveSets", fn := fun _ => fun
  | [d1, d2] => { results := [.lit (.bool true)], args := [d1, d2] }
  | _ => none }
def liveSetsRow : OpenClaim := { program := "ytjjgjflbhpoloaa", sum := "e5b9251c9cf31517a8520715a1854e4541f2bf25bf48ddbaa32477f0b4889835", func := "ostler/ostlerlaw.LiveSets", spec := "liveSets", unfollowed := true, recurses := true, plainKeys := false, apart := false }
def LiveSetsSaid : Prop := liveSetsRow.holds Try.pinned (OpenSpec.ofChange liveSetsSpec)

/-- ITS FALSE NEIGHBOUR: 'it returns false'. Refute it at one input. -/
def liveSetsWrong : ChangeSpec := { name := "liveSets", fn := fun _ => fun
  | [d1, d2] => { results := [.lit (.bool false)], args := [d1, d2] }
  | _ => none }
def LiveSetsWrongFalsely : Prop := liveSetsRow.holds Try.pinned (OpenSpec.ofChange liveSetsWrong)

/-- 'ostlerlaw.LiveSpans': WHATEVER THE INPUT: true; the input reads as it did. -/
def liveSpansSpec : ChangeSpec := { name := "liveSpans", fn := fun _ => fun
  | [d1, d2] => { results := [.lit (.bool true)], args := [d1, d2] }
  | _ => none }
def liveSpansRow : OpenClaim := { program := "ytjjgjflbhpoloaa", sum := "e5b9251c9cf31517a8520715a1854e4541f2bf25bf48ddbaa32477f0b4889835", func := "ostler/ostlerlaw.LiveSpans", spec := "liveSpans", unfollowed := true, recurses := true, plainKeys := false, apart := false }
def LiveSpansSaid : Prop := liveSpansRow.holds Try.pinned (OpenSpec.ofChange liveSpansSpec)

/-- ITS FALSE NEIGHBOUR: 'it returns false'. Refute it at one input. -/
def liveSpansWrong : ChangeSpec := { name := "liveSpans", fn := fun _ => fun
  | [d1, d2] => { results := [.lit (.bool false)], args := [d1, d2] }
  | _ => none }
def LiveSpansWrongFalsely : Prop := liveSpansRow.holds Try.pinned (OpenSpec.ofChange liveSpansWrong)

/-- 'ostlerlaw.JudgeKnows': WHATEVER THE INPUT: true; the input reads as it did. -/
def judgeKnowsSpec : ChangeSpec := { name := "judgeKnows", fn := fun _ => fun
  | [d1, d2, d3] => { results := [.lit (.bool true)], args := [d1, d2, d3] }
  | _ => none }
def judgeKnowsRow : OpenClaim := { program := "ytjjgjflbhpoloaa", sum := "e5b9251c9cf31517a8520715a1854e4541f2bf25bf48ddbaa32477f0b4889835", func := "ostler/ostlerlaw.JudgeKnows", spec := "judgeKnows", unfollowed := true, recurses := true, plainKeys := false, apart := false }
def JudgeKnowsSaid : Prop := judgeKnowsRow.holds Try.pinned (OpenSpec.ofChange judgeKnowsSpec)

/-- ITS FALSE NEIGHBOUR: 'it returns false'. Refute it at one input. -/
def judgeKnowsWrong : ChangeSpec := { name := "judgeKnows", fn := fun _ => fun
  | [d1, d2, d3] => { results := [.lit (.bool false)], args := [d1, d2, d3] }
  | _ => none }
def JudgeKnowsWrongFalsely : Prop := judgeKnowsRow.holds Try.pinned (OpenSpec.ofChange judgeKnowsWrong)

/-- 'ostlerlaw.JudgeJudges': WHATEVER THE INPUT: true; the input reads as it did. -/
def judgeJudgesSpec : ChangeSpec := { name := "judgeJudges", fn := fun _ => fun
  | [d1, d2, d3] => { results := [.lit (.bool true)], args := [d1, d2, d3] }
  | _ => none }
def judgeJudgesRow : OpenClaim := { program := "ytjjgjflbhpoloaa", sum := "e5b9251c9cf31517a8520715a1854e4541f2bf25bf48ddbaa32477f0b4889835", func := "ostler/ostlerlaw.JudgeJudges", spec := "judgeJudges", unfollowed := true, recurses := true, plainKeys := false, apart := false }
def JudgeJudgesSaid : Prop := judgeJudgesRow.holds Try.pinned (OpenSpec.ofChange judgeJudgesSpec)

/-- ITS FALSE NEIGHBOUR: 'it returns false'. Refute it at one input. -/
def judgeJudgesWrong : ChangeSpec := { name := "judgeJudges", fn := fun _ => fun
  | [d1, d2, d3] => { results := [.lit (.bool false)], args := [d1, d2, d3] }
  | _ => none }
def JudgeJudgesWrongFalsely : Prop := judgeJudgesRow.holds Try.pinned (OpenSpec.ofChange judgeJudgesWrong)

/-- 'ostlerlaw.AllocCounts': WHATEVER THE INPUT: true; the input reads as it did. -/
def allocCountsSpec : ChangeSpec := { name := "allocCounts", fn := fun _ => fun
  | [d1, d2, d3] => { results := [.lit (.bool true)], args := [d1, d2, d3] }
  | _ => none }
def allocCountsRow : OpenClaim := { program := "ytjjgjflbhpoloaa", sum := "e5b9251c9cf31517a8520715a1854e4541f2bf25bf48ddbaa32477f0b4889835", func := "ostler/ostlerlaw.AllocCounts", spec := "allocCounts", unfollowed := true, recurses := true, plainKeys := false, apart := false }
def AllocCountsSaid : Prop := allocCountsRow.holds Try.pinned (OpenSpec.ofChange allocCountsSpec)

/-- ITS FALSE NEIGHBOUR: 'it returns false'. Refute it at one input. -/
def allocCountsWrong : ChangeSpec := { name := "allocCounts", fn := fun _ => fun
  | [d1, d2, d3] => { results := [.lit (.bool false)], args := [d1, d2, d3] }
  | _ => none }
def AllocCountsWrongFalsely : Prop := allocCountsRow.holds Try.pinned (OpenSpec.ofChange allocCountsWrong)

/-- 'ostlerlaw.ClaimClaims': WHATEVER THE INPUT: true; the input reads as it did. -/
def claimClaimsSpec : ChangeSpec := { name := "claimClaims", fn := fun _ => fun
  | [d1, d2] => { results := [.lit (.bool true)], args := [d1, d2] }
  | _ => none }
def claimClaimsRow : OpenClaim := { program := "ytjjgjflbhpoloaa", sum := "e5b9251c9cf31517a8520715a1854e4541f2bf25bf48ddbaa32477f0b4889835", func := "ostler/ostlerlaw.ClaimClaims", spec := "claimClaims", unfollowed := true, recurses := true, plainKeys := false, apart := false }
def ClaimClaimsSaid : Prop := claimClaimsRow.holds Try.pinned (OpenSpec.ofChange claimClaimsSpec)

/-- ITS FALSE NEIGHBOUR: 'it returns false'. Refute it at one input. -/
def claimClaimsWrong : ChangeSpec := { name := "claimClaims", fn := fun _ => fun
  | [d1, d2] => { results := [.lit (.bool false)], args := [d1, d2] }
  | _ => none }
def ClaimClaimsWrongFalsely : Prop := claimClaimsRow.holds Try.pinned (OpenSpec.ofChange claimClaimsWrong)

/- THE SECOND FORM. 'bulk': how many values and letters a reading holds, each counted each time it is reached (what is shared counts as often as it is met; a slice's spare places count too). A statement '..UptoSaid' is the law's where the arguments, and the package variables that the reading takes, are together of bulk at most 1048576: NARROWER than '..Said'. Prove '..Said' where nothing that the law and all that it calls make is longer than what came in: it says more and counts as full. Else prove '..UptoSaid'. A law counts once. -/
mutual
def uptoBulk {H : Type} : DataW H → Nat
  | .lit (.string bytes) => bytes.length + 1
  | .lit _ => 1
  | .nil => 1
  | .ptr d => uptoBulk d + 1
  | .slice elems spare => uptoBulkAll elems + uptoBulkAll spare + 1
  | .agg parts => uptoBulkAll parts + 1
  | .iface _ d => uptoBulk d + 1
  | .map entries => uptoBulkEntries entries + 1
  | .held _ => 1
def uptoBulkAll {H : Type} : List (DataW H) → Nat
  | [] => 0
  | d :: r => uptoBulk d + uptoBulkAll r
def uptoBulkEntries {H : Type} : List (Lit × DataW H) → Nat
  | [] => 0
  | x :: r => uptoBulkEntry x + uptoBulkEntries r
def uptoBulkEntry {H : Type} : Lit × DataW H → Nat
  | (.string bytes, d) => bytes.length + uptoBulk d + 1
  | (_, d) => uptoBulk d + 1
 end
def uptoSmall : (H : Type) → List (DataW H) → Bool := fun _ ds => decide (uptoBulkAll ds ≤ 1048576)
def OpenSpec.upto (s : _root_.Go.ChangeSpec) : _root_.Go.OpenSpec := { _root_.Go.OpenSpec.ofChange s with cond := some uptoSmall }

/-- 'ostlerlaw.OrderOrders', WHERE WHAT IT READS IS OF BULK AT MOST 1048576: true; the input reads as it did. -/
def orderOrdersUptoRow : OpenClaim := { program := "ytjjgjflbhpoloaa", sum := "e5b9251c9cf31517a8520715a1854e4541f2bf25bf48ddbaa32477f0b4889835", func := "ostler/ostlerlaw.OrderOrders", spec := "orderOrders", unfollowed := true, recurses := true, plainKeys := false, apart := false, narrowed := true }
def OrderOrdersUptoSaid : Prop := orderOrdersUptoRow.holds Try.pinned (OpenSpec.upto orderOrdersSpec)

/-- 'ostlerlaw.LiveSets', WHERE WHAT IT READS IS OF BULK AT MOST 1048576: true; the input reads as it did. -/
def liveSetsUptoRow : OpenClaim := { program := "ytjjgjflbhpoloaa", sum := "e5b9251c9cf31517a8520715a1854e4541f2bf25bf48ddbaa32477f0b4889835", func := "ostler/ostlerlaw.LiveSets", spec := "liveSets", unfollowed := true, recurses := true, plainKeys := false, apart := false, narrowed := true }
def LiveSetsUptoSaid : Prop := liveSetsUptoRow.holds Try.pinned (OpenSpec.upto liveSetsSpec)

/-- 'ostlerlaw.LiveSpans', WHERE WHAT IT READS IS OF BULK AT MOST 1048576: true; the input reads as it did. -/
def liveSpansUptoRow : OpenClaim := { program := "ytjjgjflbhpoloaa", sum := "e5b9251c9cf31517a8520715a1854e4541f2bf25bf48ddbaa32477f0b4889835", func := "ostler/ostlerlaw.LiveSpans", spec := "liveSpans", unfollowed := true, recurses := true, plainKeys := false, apart := false, narrowed := true }
def LiveSpansUptoSaid : Prop := liveSpansUptoRow.holds Try.pinned (OpenSpec.upto liveSpansSpec)

/-- 'ostlerlaw.JudgeKnows', WHERE WHAT IT READS IS OF BULK AT MOST 1048576: true; the input reads as it did. -/
def judgeKnowsUptoRow : OpenClaim := { program := "ytjjgjflbhpoloaa", sum := "e5b9251c9cf31517a8520715a1854e4541f2bf25bf48ddbaa32477f0b4889835", func := "ostler/ostlerlaw.JudgeKnows", spec := "judgeKnows", unfollowed := true, recurses := true, plainKeys := false, apart := false, narrowed := true }
def JudgeKnowsUptoSaid : Prop := judgeKnowsUptoRow.holds Try.pinned (OpenSpec.upto judgeKnowsSpec)

/-- 'ostlerlaw.JudgeJudges', WHERE WHAT IT READS IS OF BULK AT MOST 1048576: true; the input reads as it did. -/
def judgeJudgesUptoRow : OpenClaim := { program := "ytjjgjflbhpoloaa", sum := "e5b9251c9cf31517a8520715a1854e4541f2bf25bf48ddbaa32477f0b4889835", func := "ostler/ostlerlaw.JudgeJudges", spec := "judgeJudges", unfollowed := true, recurses := true, plainKeys := false, apart := false, narrowed := true }
def JudgeJudgesUptoSaid : Prop := judgeJudgesUptoRow.holds Try.pinned (OpenSpec.upto judgeJudgesSpec)

/-- 'ostlerlaw.AllocCounts', WHERE WHAT IT READS IS OF BULK AT MOST 1048576: true; the input reads as it did. -/
def allocCountsUptoRow : OpenClaim := { program := "ytjjgjflbhpoloaa", sum := "e5b9251c9cf31517a8520715a1854e4541f2bf25bf48ddbaa32477f0b4889835", func := "ostler/ostlerlaw.AllocCounts", spec := "allocCounts", unfollowed := true, recurses := true, plainKeys := false, apart := false, narrowed := true }
def AllocCountsUptoSaid : Prop := allocCountsUptoRow.holds Try.pinned (OpenSpec.upto allocCountsSpec)

/-- 'ostlerlaw.ClaimClaims', WHERE WHAT IT READS IS OF BULK AT MOST 1048576: true; the input reads as it did. -/
def claimClaimsUptoRow : OpenClaim := { program := "ytjjgjflbhpoloaa", sum := "e5b9251c9cf31517a8520715a1854e4541f2bf25bf48ddbaa32477f0b4889835", func := "ostler/ostlerlaw.ClaimClaims", spec := "claimClaims", unfollowed := true, recurses := true, plainKeys := false, apart := false, narrowed := true }
def ClaimClaimsUptoSaid : Prop := claimClaimsUptoRow.holds Try.pinned (OpenSpec.upto claimClaimsSpec)

end Rows
end Go.Proofs.Ytjjgjflbhpoloaa
