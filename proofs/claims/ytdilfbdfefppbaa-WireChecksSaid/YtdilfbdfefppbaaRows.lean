/-
  No cell of these rows narrows 'for every input' (looked for: loops, veiled, ifaces, maps, wideKeys, modest, calm, conditions, laid).
  DERIVED. THE GIVEN ROWS OF THIS SEAT. 11 by the template 'for every input the law returns true; each argument reads behind the call as it read before'; 0 by the template 'total and deterministic' (their statements: YtdilfbdfefppbaaTotals.lean).
  GIVEN WITH THE SEED: the statements are not yours to turn. If you find one false, say at which input.
  Laid BY PROGRAM, IN A SANDBOX (cutbox-rows.mjs): the forced cells as the released guide's own fill.sh prints them over the translation 8c76d4336c8b1e98… (all of the seat's roots in one cut). By AI agents, Wed Nov 11 2026. No macro, syntax, notation, axiom, sorry.
-/
import Derived.Test.YtdilfbdfefppbaaChecked
import GoSem.Claim
import GoSem.ClaimJoined
import GoSem.ClaimMapViews
import Derived.JoinedTies
import Derived.KernelRfl
namespace Go.Proofs.Ytdilfbdfefppbaa
/- THE CELL 'sum', in the pinned program and in every row, IS THE sha256 OF THE DUMP (.gsa) THAT YtdilfbdfefppbaaProg.lean LOADS. Nothing in Lean hashes anything: it is a label: what it is worth is what the hold of that sum in a sandbox is worth. -/
noncomputable def Try.pinned : Pinned := { name := "ytdilfbdfefppbaa", sum := "8c76d4336c8b1e98d4437f7b65013222280f1cfde4caa88c889f4f67c837c321", checked := Try.checked }
namespace Rows
def none {H : Type} : Left H := { results := [], args := [] }

/-- 'ostlerlaw.Names': WHATEVER THE INPUT: true; the input reads as it did. -/
def namesSpec : ChangeSpec := { name := "names", fn := fun _ => fun
  | [] => { results := [.lit (.bool true)], args := [] }
  | _ => none }
def namesRow : OpenClaim := { program := "ytdilfbdfefppbaa", sum := "8c76d4336c8b1e98d4437f7b65013222280f1cfde4caa88c889f4f67c837c321", func := "ostler/ostlerlaw.Names", spec := "names", plainKeys := false, apart := false }
def NamesSaid : Prop := namesRow.holds Try.pinned (OpenSpec.ofChange namesSpec)

/-- ITS FALSE NEIGHBOUR: 'it returns false'. Refute it at one input. -/
def namesWrong : ChangeSpec := { name := "names", fn := fun _ => fun
  | [] => { results := [.lit (.bool false)], args := [] }
  | _ => none }
def NamesWrongFalsely : Prop := namesRow.holds Try.pinned (OpenSpec.ofChange namesWrong)

/-- 'ostlerlaw.LiveStarts': WHATEVER THE INPUT: true; the input reads as it did. -/
def liveStartsSpec : ChangeSpec := { name := "liveStarts", fn := fun _ => fun
  | [d] => { results := [.lit (.bool true)], args := [d] }
  | _ => none }
def liveStartsRow : OpenClaim := { program := "ytdilfbdfefppbaa", sum := "8c76d4336c8b1e98d4437f7b65013222280f1cfde4caa88c889f4f67c837c321", func := "ostler/ostlerlaw.LiveStarts", spec := "liveStarts", plainKeys := false, apart := false }
def LiveStartsSaid : Prop := liveStartsRow.holds Try.pinned (OpenSpec.ofChange liveStartsSpec)

/-- ITS FALSE NEIGHBOUR: 'it returns false'. Refute it at one input. -/
def liveStartsWrong : ChangeSpec := { name := "liveStarts", fn := fun _ => fun
  | [d] => { results := [.lit (.bool false)], args := [d] }
  | _ => none }
def LiveStartsWrongFalsely : Prop := liveStartsRow.holds Try.pinned (OpenSpec.ofChange liveStartsWrong)

/-- 'ostlerlaw.RunMixes': WHATEVER THE INPUT: true; the input reads as it did. -/
def runMixesSpec : ChangeSpec := { name := "runMixes", fn := fun _ => fun
  | [d] => { results := [.lit (.bool true)], args := [d] }
  | _ => none }
def runMixesRow : OpenClaim := { program := "ytdilfbdfefppbaa", sum := "8c76d4336c8b1e98d4437f7b65013222280f1cfde4caa88c889f4f67c837c321", func := "ostler/ostlerlaw.RunMixes", spec := "runMixes", plainKeys := false, apart := false }
def RunMixesSaid : Prop := runMixesRow.holds Try.pinned (OpenSpec.ofChange runMixesSpec)

/-- ITS FALSE NEIGHBOUR: 'it returns false'. Refute it at one input. -/
def runMixesWrong : ChangeSpec := { name := "runMixes", fn := fun _ => fun
  | [d] => { results := [.lit (.bool false)], args := [d] }
  | _ => none }
def RunMixesWrongFalsely : Prop := runMixesRow.holds Try.pinned (OpenSpec.ofChange runMixesWrong)

/-- 'ostlerlaw.ShapeMachines': WHATEVER THE INPUT: true; the input reads as it did. -/
def shapeMachinesSpec : ChangeSpec := { name := "shapeMachines", fn := fun _ => fun
  | [d] => { results := [.lit (.bool true)], args := [d] }
  | _ => none }
def shapeMachinesRow : OpenClaim := { program := "ytdilfbdfefppbaa", sum := "8c76d4336c8b1e98d4437f7b65013222280f1cfde4caa88c889f4f67c837c321", func := "ostler/ostlerlaw.ShapeMachines", spec := "shapeMachines", plainKeys := false, apart := false }
def ShapeMachinesSaid : Prop := shapeMachinesRow.holds Try.pinned (OpenSpec.ofChange shapeMachinesSpec)

/-- ITS FALSE NEIGHBOUR: 'it returns false'. Refute it at one input. -/
def shapeMachinesWrong : ChangeSpec := { name := "shapeMachines", fn := fun _ => fun
  | [d] => { results := [.lit (.bool false)], args := [d] }
  | _ => none }
def ShapeMachinesWrongFalsely : Prop := shapeMachinesRow.holds Try.pinned (OpenSpec.ofChange shapeMachinesWrong)

/-- 'ostlerlaw.RunMakes': WHATEVER THE INPUT: true; the input reads as it did. -/
def runMakesSpec : ChangeSpec := { name := "runMakes", fn := fun _ => fun
  | [d1, d2, d3, d4] => { results := [.lit (.bool true)], args := [d1, d2, d3, d4] }
  | _ => none }
def runMakesRow : OpenClaim := { program := "ytdilfbdfefppbaa", sum := "8c76d4336c8b1e98d4437f7b65013222280f1cfde4caa88c889f4f67c837c321", func := "ostler/ostlerlaw.RunMakes", spec := "runMakes", plainKeys := false, apart := false }
def RunMakesSaid : Prop := runMakesRow.holds Try.pinned (OpenSpec.ofChange runMakesSpec)

/-- ITS FALSE NEIGHBOUR: 'it returns false'. Refute it at one input. -/
def runMakesWrong : ChangeSpec := { name := "runMakes", fn := fun _ => fun
  | [d1, d2, d3, d4] => { results := [.lit (.bool false)], args := [d1, d2, d3, d4] }
  | _ => none }
def RunMakesWrongFalsely : Prop := runMakesRow.holds Try.pinned (OpenSpec.ofChange runMakesWrong)

/-- 'ostlerlaw.ShapeMeets': WHATEVER THE INPUT: true; the input reads as it did. -/
def shapeMeetsSpec : ChangeSpec := { name := "shapeMeets", fn := fun _ => fun
  | [d1, d2] => { results := [.lit (.bool true)], args := [d1, d2] }
  | _ => none }
def shapeMeetsRow : OpenClaim := { program := "ytdilfbdfefppbaa", sum := "8c76d4336c8b1e98d4437f7b65013222280f1cfde4caa88c889f4f67c837c321", func := "ostler/ostlerlaw.ShapeMeets", spec := "shapeMeets", recurses := true, plainKeys := false, apart := false }
def ShapeMeetsSaid : Prop := shapeMeetsRow.holds Try.pinned (OpenSpec.ofChange shapeMeetsSpec)

/-- ITS FALSE NEIGHBOUR: 'it returns false'. Refute it at one input. -/
def shapeMeetsWrong : ChangeSpec := { name := "shapeMeets", fn := fun _ => fun
  | [d1, d2] => { results := [.lit (.bool false)], args := [d1, d2] }
  | _ => none }
def ShapeMeetsWrongFalsely : Prop := shapeMeetsRow.holds Try.pinned (OpenSpec.ofChange shapeMeetsWrong)

/-- 'ostlerlaw.RunTakes': WHATEVER THE INPUT: true; the input reads as it did. -/
def runTakesSpec : ChangeSpec := { name := "runTakes", fn := fun _ => fun
  | [d1, d2, d3, d4] => { results := [.lit (.bool true)], args := [d1, d2, d3, d4] }
  | _ => none }
def runTakesRow : OpenClaim := { program := "ytdilfbdfefppbaa", sum := "8c76d4336c8b1e98d4437f7b65013222280f1cfde4caa88c889f4f67c837c321", func := "ostler/ostlerlaw.RunTakes", spec := "runTakes", plainKeys := false, apart := false }
def RunTakesSaid : Prop := runTakesRow.holds Try.pinned (OpenSpec.ofChange runTakesSpec)

/-- ITS FALSE NEIGHBOUR: 'it returns false'. Refute it at one input. -/
def runTakesWrong : ChangeSpec := { name := "runTakes", fn := fun _ => fun
  | [d1, d2, d3, d4] => { results := [.lit (.bool false)], args := [d1, d2, d3, d4] }
  | _ => none }
def RunTakesWrongFalsely : Prop := runTakesRow.holds Try.pinned (OpenSpec.ofChange runTakesWrong)

/-- 'ostlerlaw.OrderOrders': WHATEVER THE INPUT: true; the input reads as it did. -/
def orderOrdersSpec : ChangeSpec := { name := "orderOrders", fn := fun _ => fun
  | [d1, d2, d3, d4] => { results := [.lit (.bool true)], args := [d1, d2, d3, d4] }
  | _ => none }
def orderOrdersRow : OpenClaim := { program := "ytdilfbdfefppbaa", sum := "8c76d4336c8b1e98d4437f7b65013222280f1cfde4caa88c889f4f67c837c321", func := "ostler/ostlerlaw.OrderOrders", spec := "orderOrders", unfollowed := true, recurses := true, plainKeys := false, apart := false }
def OrderOrdersSaid : Prop := orderOrdersRow.holds Try.pinned (OpenSpec.ofChange orderOrdersSpec)

/-- ITS FALSE NEIGHBOUR: 'it returns false'. Refute it at one input. -/
def orderOrdersWrong : ChangeSpec := { name := "orderOrders", fn := fun _ => fun
  | [d1, d2, d3, d4] => { results := [.lit (.bool false)], args := [d1, d2, d3, d4] }
  | _ => none }
def OrderOrdersWrongFalsely : Prop := orderOrdersRow.holds Try.pinned (OpenSpec.ofChange orderOrdersWrong)

/-- 'ostlerlaw.ShapeChecks': WHATEVER THE INPUT: true; the input reads as it did. -/
def shapeChecksSpec : ChangeSpec := { name := "shapeChecks", fn := fun _ => fun
  | [d1, d2] => { results := [.lit (.bool true)], args := [d1, d2] }
  | _ => none }
def shapeChecksRow : OpenClaim := { program := "ytdilfbdfefppbaa", sum := "8c76d4336c8b1e98d4437f7b65013222280f1cfde4caa88c889f4f67c837c321", func := "ostler/ostlerlaw.ShapeChecks", spec := "shapeChecks", unfollowed := true, recurses := true, plainKeys := false, apart := false }
def ShapeChecksSaid : Prop := shapeChecksRow.holds Try.pinned (OpenSpec.ofChange shapeChecksSpec)

/-- ITS FALSE NEIGHBOUR: 'it returns false'. Refute it at one input. -/
def shapeChecksWrong : ChangeSpec := { name := "shapeChecks", fn := fun _ => fun
  | [d1, d2] => { results := [.lit (.bool false)], args := [d1, d2] }
  | _ => none }
def ShapeChecksWrongFalsely : Prop := shapeChecksRow.holds Try.pinned (OpenSpec.ofChange shapeChecksWrong)

/-- 'ostlerlaw.FlowChecks': WHATEVER THE INPUT: true; the input reads as it did. -/
def flowChecksSpec : ChangeSpec := { name := "flowChecks", fn := fun _ => fun
  | [d1, d2] => { results := [.lit (.bool true)], args := [d1, d2] }
  | _ => none }
def flowChecksRow : OpenClaim := { program := "ytdilfbdfefppbaa", sum := "8c76d4336c8b1e98d4437f7b65013222280f1cfde4caa88c889f4f67c837c321", func := "ostler/ostlerlaw.FlowChecks", spec := "flowChecks", unfollowed := true, recurses := true, plainKeys := false, apart := false }
def FlowChecksSaid : Prop := flowChecksRow.holds Try.pinned (OpenSpec.ofChange flowChecksSpec)

/-- ITS FALSE NEIGHBOUR: 'it returns false'. Refute it at one input. -/
def flowChecksWrong : ChangeSpec := { name := "flowChecks", fn := fun _ => fun
  | [d1, d2] => { results := [.lit (.bool false)], args := [d1, d2] }
  | _ => none }
def FlowChecksWrongFalsely : Prop := flowChecksRow.holds Try.pinned (OpenSpec.ofChange flowChecksWrong)

/-- 'ostlerlaw.WireChecks': WHATEVER THE INPUT: true; the input reads as it did. -/
def wireChecksSpec : ChangeSpec := { name := "wireChecks", fn := fun _ => fun
  | [d] => { results := [.lit (.bool true)], args := [d] }
  | _ => none }
def wireChecksRow : OpenClaim := { program := "ytdilfbdfefppbaa", sum := "8c76d4336c8b1e98d4437f7b65013222280f1cfde4caa88c889f4f67c837c321", func := "ostler/ostlerlaw.WireChecks", spec := "wireChecks", unfollowed := true, recurses := true, plainKeys := false, apart := false }
def WireChecksSaid : Prop := wireChecksRow.holds Try.pinned (OpenSpec.ofChange wireChecksSpec)

/-- ITS FALSE NEIGHBOUR: 'it returns false'. Refute it at one input. -/
def wireChecksWrong : ChangeSpec := { name := "wireChecks", fn := fun _ => fun
  | [d] => { results := [.lit (.bool false)], args := [d] }
  | _ => none }
def WireChecksWrongFalsely : Prop := wireChecksRow.holds Try.pinned (OpenSpec.ofChange wireChecksWrong)

/- THE SECOND FORM. 'bulk': how many values and letters a reading holds, each counted each time it is reached (what is shared counts as often as it is met; a slice's spare places count too). A statement '..UptoSaid' is the law's where the arguments, and the package variables that the reading takes, are together of bulk at most 1048576: NARROWER than '..Said'. Prove '..Said' where nothing that the law and all that it calls make is longer than what came in: it says more and counts as full. Else prove '..UptoSaid'. A law counts once. -/
mutual
def uptoBulk {H : Type} : DataW H → Nat
  | .lit (.string bytes) => bytes.length + 1
  | .lit _ => 1
  | .nil => 1
  | .ptr d => uptoBulk d + 1
  | .slice elems spare => uptoBulkAll elems + uptoBulkAll spare + 1
  | .agg parts => uptoBulkAll parts + 1
  | .iface _ d => uptoBulk d + 1
  | .map entries => uptoBulkEntries entries + 1
  | .held _ => 1
def uptoBulkAll {H : Type} : List (DataW H) → Nat
  | [] => 0
  | d :: r => uptoBulk d + uptoBulkAll r
def uptoBulkEntries {H : Type} : List (Lit × DataW H) → Nat
  | [] => 0
  | x :: r => uptoBulkEntry x + uptoBulkEntries r
def uptoBulkEntry {H : Type} : Lit × DataW H → Nat
  | (.string bytes, d) => bytes.length + uptoBulk d + 1
  | (_, d) => uptoBulk d + 1
 end
def uptoSmall : (H : Type) → List (DataW H) → Bool := fun _ ds => decide (uptoBulkAll ds ≤ 1048576)
def OpenSpec.upto (s : _root_.Go.ChangeSpec) : _root_.Go.OpenSpec := { _root_.Go.OpenSpec.ofChange s with cond := some uptoSmall }

/-- 'ostlerlaw.Names', WHERE WHAT IT READS IS OF BULK AT MOST 1048576: true; the input reads as it did. -/
def namesUptoRow : OpenClaim := { program := "ytdilfbdfefppbaa", sum := "8c76d4336c8b1e98d4437f7b65013222280f1cfde4caa88c889f4f67c837c321", func := "ostler/ostlerlaw.Names", spec := "names", plainKeys := false, apart := false, narrowed := true }
def NamesUptoSaid : Prop := namesUptoRow.holds Try.pinned (OpenSpec.upto namesSpec)

/-- 'ostlerlaw.LiveStarts', WHERE WHAT IT READS IS OF BULK AT MOST 1048576: true; the input reads as it did. -/
def liveStartsUptoRow : OpenClaim := { program := "ytdilfbdfefppbaa", sum := "8c76d4336c8b1e98d4437f7b65013222280f1cfde4caa88c889f4f67c837c321", func := "ostler/ostlerlaw.LiveStarts", spec := "liveStarts", plainKeys := false, apart := false, narrowed := true }
def LiveStartsUptoSaid : Prop := liveStartsUptoRow.holds Try.pinned (OpenSpec.upto liveStartsSpec)

/-- 'ostlerlaw.RunMixes', WHERE WHAT IT READS IS OF BULK AT MOST 1048576: true; the input reads as it did. -/
def runMixesUptoRow : OpenClaim := { program := "ytdilfbdfefppbaa", sum := "8c76d4336c8b1e98d4437f7b65013222280f1cfde4caa88c889f4f67c837c321", func := "ostler/ostlerlaw.RunMixes", spec := "runMixes", plainKeys := false, apart := false, narrowed := true }
def RunMixesUptoSaid : Prop := runMixesUptoRow.holds Try.pinned (OpenSpec.upto runMixesSpec)

/-- 'ostlerlaw.ShapeMachines', WHERE WHAT IT READS IS OF BULK AT MOST 1048576: true; the input reads as it did. -/
def shapeMachinesUptoRow : OpenClaim := { program := "ytdilfbdfefppbaa", sum := "8c76d4336c8b1e98d4437f7b65013222280f1cfde4caa88c889f4f67c837c321", func := "ostler/ostlerlaw.ShapeMachines", spec := "shapeMachines", plainKeys := false, apart := false, narrowed := true }
def ShapeMachinesUptoSaid : Prop := shapeMachinesUptoRow.holds Try.pinned (OpenSpec.upto shapeMachinesSpec)

/-- 'ostlerlaw.RunMakes', WHERE WHAT IT READS IS OF BULK AT MOST 1048576: true; the input reads as it did. -/
def runMakesUptoRow : OpenClaim := { program := "ytdilfbdfefppbaa", sum := "8c76d4336c8b1e98d4437f7b65013222280f1cfde4caa88c889f4f67c837c321", func := "ostler/ostlerlaw.RunMakes", spec := "runMakes", plainKeys := false, apart := false, narrowed := true }
def RunMakesUptoSaid : Prop := runMakesUptoRow.holds Try.pinned (OpenSpec.upto runMakesSpec)

/-- 'ostlerlaw.ShapeMeets', WHERE WHAT IT READS IS OF BULK AT MOST 1048576: true; the input reads as it did. -/
def shapeMeetsUptoRow : OpenClaim := { program := "ytdilfbdfefppbaa", sum := "8c76d4336c8b1e98d4437f7b65013222280f1cfde4caa88c889f4f67c837c321", func := "ostler/ostlerlaw.ShapeMeets", spec := "shapeMeets", recurses := true, plainKeys := false, apart := false, narrowed := true }
def ShapeMeetsUptoSaid : Prop := shapeMeetsUptoRow.holds Try.pinned (OpenSpec.upto shapeMeetsSpec)

/-- 'ostlerlaw.RunTakes', WHERE WHAT IT READS IS OF BULK AT MOST 1048576: true; the input reads as it did. -/
def runTakesUptoRow : OpenClaim := { program := "ytdilfbdfefppbaa", sum := "8c76d4336c8b1e98d4437f7b65013222280f1cfde4caa88c889f4f67c837c321", func := "ostler/ostlerlaw.RunTakes", spec := "runTakes", plainKeys := false, apart := false, narrowed := true }
def RunTakesUptoSaid : Prop := runTakesUptoRow.holds Try.pinned (OpenSpec.upto runTakesSpec)

/-- 'ostlerlaw.OrderOrders', WHERE WHAT IT READS IS OF BULK AT MOST 1048576: true; the input reads as it did. -/
def orderOrdersUptoRow : OpenClaim := { program := "ytdilfbdfefppbaa", sum := "8c76d4336c8b1e98d4437f7b65013222280f1cfde4caa88c889f4f67c837c321", func := "ostler/ostlerlaw.OrderOrders", spec := "orderOrders", unfollowed := true, recurses := true, plainKeys := false, apart := false, narrowed := true }
def OrderOrdersUptoSaid : Prop := orderOrdersUptoRow.holds Try.pinned (OpenSpec.upto orderOrdersSpec)

/-- 'ostlerlaw.ShapeChecks', WHERE WHAT IT READS IS OF BULK AT MOST 1048576: true; the input reads as it did. -/
def shapeChecksUptoRow : OpenClaim := { program := "ytdilfbdfefppbaa", sum := "8c76d4336c8b1e98d4437f7b65013222280f1cfde4caa88c889f4f67c837c321", func := "ostler/ostlerlaw.ShapeChecks", spec := "shapeChecks", unfollowed := true, recurses := true, plainKeys := false, apart := false, narrowed := true }
def ShapeChecksUptoSaid : Prop := shapeChecksUptoRow.holds Try.pinned (OpenSpec.upto shapeChecksSpec)

/-- 'ostlerlaw.FlowChecks', WHERE WHAT IT READS IS OF BULK AT MOST 1048576: true; the input reads as it did. -/
def flowChecksUptoRow : OpenClaim := { program := "ytdilfbdfefppbaa", sum := "8c76d4336c8b1e98d4437f7b65013222280f1cfde4caa88c889f4f67c837c321", func := "ostler/ostlerlaw.FlowChecks", spec := "flowChecks", unfollowed := true, recurses := true, plainKeys := false, apart := false, narrowed := true }
def FlowChecksUptoSaid : Prop := flowChecksUptoRow.holds Try.pinned (OpenSpec.upto flowChecksSpec)

/-- 'ostlerlaw.WireChecks', WHERE WHAT IT READS IS OF BULK AT MOST 1048576: true; the input reads as it did. -/
def wireChecksUptoRow : OpenClaim := { program := "ytdilfbdfefppbaa", sum := "8c76d4336c8b1e98d4437f7b65013222280f1cfde4caa88c889f4f67c837c321", func := "ostler/ostlerlaw.WireChecks", spec := "wireChecks", unfollowed := true, recurses := true, plainKeys := false, apart := false, narrowed := true }
def WireChecksUptoSaid : Prop := wireChecksUptoRow.holds Try.pinned (OpenSpec.upto wireChecksSpec)

end Rows
end Go.Proofs.Ytdilfbdfefppbaa
