/- Contracts of shape.fixed and of the document's fixedReg. Condition: what was checked ahead of them. -/
import Derived.Test.YtdilfbdfefppbaaShpB
set_option linter.unusedVariables false
set_option linter.unusedSimpArgs false
namespace Go.Proofs.Ytdilfbdfefppbaa
open Go Go.Abs Go.RowKit

def tgt (x : Ins) (o : Opd) : Opd := if o.Limit = 5 then x.opd o.N else o
theorem tup_ab {a a' b b' : Int} {c c' : Bool} (h1 : a = a') (h2 : b = b') (h3 : c = c') : AV.tup [.agg [.i64 a, .i64 b], .bool c] = .tup [.agg [.i64 a', .i64 b'], .bool c'] := by rw [h1, h2, h3]
set_option maxHeartbeats 600000 in
theorem c_fixed (f : Fun) (x : Ins) (o : Opd) (h5 : o.Limit = 5 → 0 ≤ o.N ∧ o.N < x.Operands.length) (ht : valB f (tgt x o).Value = true) :
    ACallIs B.P 92 [f.av, x.av, o.av] (.tup [.agg [.i64 (if (tgt x o).Limit = 4 then cls f (tgt x o).Value else 0), .i64 (if (tgt x o).Limit = 4 then (tgt x o).N else 0)], .bool (decide ((tgt x o).Limit = 4))]) := by
  have hv := idx_ok ht
  refine ACallIs.enter B _ _ Try.func92 rfl rfl Try.ntmps92 Try.results92 rfl fun hreal => ?_
  clear hreal
  refine AWp.seq (AWp.region ?_)
  intro _
  refine AWp.freezeObj 3 rfl rfl ?_
  refine AWp.freezeObj 4 rfl rfl ?_
  repeat' (first
    | refine AWp.quietFirst (.q 0 (.q 1 (.q 2 (.q 3 (.q 4 (.q 5 (.q 6 (.q 7 (.q 8 (.c 9 true (.q 10 .fin) .no)))))))))) [0, 1, 2, 3, 4, 5, 6, 7, 8, 10] [5] mixed (by kernel_rfl) ?_
    | refine AWp.seq ?_ | refine AWp.block ?_ | refine AWp.skip ?_ | refine AWp.exit ?_
    | refine AWp.region ?_ | refine AWp.draw mixed (by kernel_rfl) ?_
    | refine AWp.cond (And.intro (fun h => ?_) (fun h => ?_))
    | refine AWp.ret ⟨Or.inl rfl, rfl, ?_⟩
    | exact trivial | refine And.intro ?_ ?_ | intro _)
  all_goals first | assumption | refine tup_ab ?_ ?_ ?_ | skip
  all_goals ((try simp only [bif_if, tgt, cls, Ins.opd] at *); grind)
def fixN (f : Fun) (x : Ins) (o : Opd) : Int := if (tgt x o).Limit = 4 then 100 * cls f (tgt x o).Value + (tgt x o).N else -1
set_option maxHeartbeats 600000 in
theorem c_fixedReg (f : Fun) (x : Ins) (o : Opd) (hf : VOk f) (h5 : o.Limit = 5 → 0 ≤ o.N ∧ o.N < x.Operands.length) (ht : valB f (tgt x o).Value = true) (hn : (tgt x o).Limit = 4 → 0 ≤ (tgt x o).N ∧ (tgt x o).N < 10) :
    ACallIs B.P 95 [f.av, x.av, o.av] (.i64 (fixN f x o)) := by
  have hv := cls_ok hf ht
  have hw1 : IntKind.i64.wrap (100 * cls f (tgt x o).Value) = 100 * cls f (tgt x o).Value := wrap_in (by omega) (by omega)
  have hw2 : (tgt x o).Limit = 4 → IntKind.i64.wrap (100 * cls f (tgt x o).Value + (tgt x o).N) = 100 * cls f (tgt x o).Value + (tgt x o).N := fun h => wrap_in (by have := hn h; omega) (by have := hn h; omega)
  refine ACallIs.enter B _ _ Try.func95 rfl rfl Try.ntmps95 Try.results95 rfl fun hreal => ?_
  clear hreal
  refine AWp.seq (AWp.region ?_)
  intro _
  refine AWp.freezeObj 3 rfl rfl ?_
  refine AWp.freezeObj 4 rfl rfl ?_
  repeat' (first
    | refine AWp.seq ?_ | refine AWp.block ?_ | refine AWp.skip ?_ | refine AWp.exit ?_
    | refine AWp.region ?_ | refine AWp.draw mixed (by kernel_rfl) ?_
    | refine AWp.cond (And.intro (fun h => ?_) (fun h => ?_))
    | refine AWp.ret ⟨Or.inl rfl, rfl, ?_⟩
    | refine CallX.pure (c_classOf f (x.opd o.N).Value (by grind [tgt])) rfl rfl rfl ?_ | refine CallK.intro (fun _ => c_classOf f (x.opd o.N).Value (by grind [tgt])) ?_
    | refine CallX.pure (c_classOf f o.Value (by grind [tgt])) rfl rfl rfl ?_ | refine CallK.intro (fun _ => c_classOf f o.Value (by grind [tgt])) ?_
    | exact trivial | refine And.intro ?_ ?_ | intro _)
  all_goals first | assumption | ((try simp only [tupOf, bif_if, fixN, tgt, cls, Ins.opd] at *); grind)
end Go.Proofs.Ytdilfbdfefppbaa
