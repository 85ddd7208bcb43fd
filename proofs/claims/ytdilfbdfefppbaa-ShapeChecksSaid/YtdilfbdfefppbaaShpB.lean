/- Contracts of shape.reuse, fixed, spoils, slices.Index and Contains at api.Reg, and of the document's reuseFault, fixedReg, spoilt, spoilsFault. Condition: what was checked ahead of them. -/
import Derived.Test.YtdilfbdfefppbaaShpA
set_option linter.unusedVariables false
set_option linter.unusedSimpArgs false
namespace Go.Proofs.Ytdilfbdfefppbaa
open Go Go.Abs Go.RowKit

def _root_.Go.Abs.Ins.opd (x : Ins) (n : Int) : Opd := x.Operands.getD n.toNat default
/-- What a first look at its operands says of an instruction. -/
structure OpsOk (f : Fun) (x : Ins) : Prop where
  len : x.Operands.length ≤ 6
  val : ∀ j, j < x.Operands.length → valB f (x.Operands.getD j default).Value = true
  kind : ∀ j, j < x.Operands.length → (x.Operands.getD j default).Kind = 1 ∨ (x.Operands.getD j default).Kind = 2
  limit : ∀ j, j < x.Operands.length → 1 ≤ (x.Operands.getD j default).Limit ∧ (x.Operands.getD j default).Limit ≤ 5
  n : ∀ j, j < x.Operands.length → (x.Operands.getD j default).Limit = 4 → 0 ≤ (x.Operands.getD j default).N ∧ (x.Operands.getD j default).N < 10
def reuF (f : Fun) (x : Ins) (o : Opd) : Int :=
  if o.N < 0 ∨ (x.Operands.length : Int) ≤ o.N then 6
  else if (x.opd o.N).Kind ≠ 1 ∨ (x.opd o.N).Late = true then 4
  else if cls f (x.opd o.N).Value ≠ cls f o.Value then 17 else 0

set_option maxHeartbeats 600000 in
theorem c_reuse (f : Fun) (x : Ins) (o : Opd) (hx : OpsOk f x) (ho : valB f o.Value = true) : ACallIs B.P 68 [f.av, x.av, o.av] (.i64 (reuF f x o)) := by
  have hu : ¬ (o.N < 0 ∨ (x.Operands.length : Int) ≤ o.N) → valB f (x.opd o.N).Value = true := fun h => hx.val _ (by omega)
  have hi : ¬ (o.N < 0 ∨ (x.Operands.length : Int) ≤ o.N) → 0 ≤ (x.opd o.N).Value ∧ (x.opd o.N).Value < f.Values.length := fun h => idx_ok (hu h)
  have hv := idx_ok ho
  refine ACallIs.enter B _ _ Try.func68 rfl rfl Try.ntmps68 Try.results68 rfl fun hreal => ?_
  clear hreal
  refine AWp.seq (AWp.region ?_)
  intro _
  refine AWp.freezeObj 3 rfl rfl ?_
  refine AWp.freezeObj 4 rfl rfl ?_
  refine AWp.freezeObj 5 rfl rfl ?_
  repeat' (first
    | refine AWp.seq ?_ | refine AWp.block ?_ | refine AWp.skip ?_ | refine AWp.exit ?_
    | refine AWp.region ?_ | refine AWp.draw mixed (by kernel_rfl) ?_
    | refine AWp.cond (And.intro (fun h => ?_) (fun h => ?_))
    | refine AWp.ret ⟨Or.inl rfl, rfl, ?_⟩
    | exact trivial | refine And.intro ?_ ?_ | intro _)
  all_goals first | assumption | ((try simp only [tupOf, bif_if, reuF, cls, Ins.opd] at *); grind)
set_option maxHeartbeats 600000 in
theorem c_reuseFault (f : Fun) (x : Ins) (o : Opd) (hx : OpsOk f x) (ho : valB f o.Value = true) : ACallIs B.P 76 [f.av, x.av, o.av] (.i64 (reuF f x o)) := by
  have hu : ¬ (o.N < 0 ∨ (x.Operands.length : Int) ≤ o.N) → valB f (x.opd o.N).Value = true := fun h => hx.val _ (by omega)
  have hk : ¬ (o.N < 0 ∨ (x.Operands.length : Int) ≤ o.N) → (x.opd o.N).Kind = 1 ∨ (x.opd o.N).Kind = 2 := fun h => hx.kind _ (by omega)
  have hl := hx.len
  have hw : IntKind.i64.wrap ((x.Operands.length : Int) - 1) = x.Operands.length - 1 := wrap_in (by omega) (by omega)
  refine ACallIs.enter B _ _ Try.func76 rfl rfl Try.ntmps76 Try.results76 rfl fun hreal => ?_
  clear hreal
  refine AWp.seq (AWp.region ?_)
  intro _
  refine AWp.freezeObj 3 rfl rfl ?_
  refine AWp.freezeObj 4 rfl rfl ?_
  refine AWp.freezeObj 5 rfl rfl ?_
  repeat' (first
    | refine AWp.seq ?_ | refine AWp.block ?_ | refine AWp.skip ?_ | refine AWp.exit ?_
    | refine AWp.region ?_ | refine AWp.draw mixed (by kernel_rfl) ?_
    | refine AWp.cond (And.intro (fun h => ?_) (fun h => ?_))
    | refine AWp.ret ⟨Or.inl rfl, rfl, ?_⟩
    | refine CallX.pure (c_In _ _ _) rfl rfl rfl ?_ | refine CallK.intro (fun _ => c_In _ _ _) ?_
    | refine CallX.pure (c_classOf f (x.opd o.N).Value (hu (by grind [inB]))) rfl rfl rfl ?_ | refine CallK.intro (fun _ => c_classOf f (x.opd o.N).Value (hu (by grind [inB]))) ?_
    | refine CallX.pure (c_classOf f o.Value ho) rfl rfl rfl ?_ | refine CallK.intro (fun _ => c_classOf f o.Value ho) ?_
    | exact trivial | refine And.intro ?_ ?_ | intro _)
  all_goals first | assumption | ((try simp only [tupOf, bif_if, reuF, Ins.opd, inB] at *); grind)

end Go.Proofs.Ytdilfbdfefppbaa
