/- Contracts of shape.value, operand, reuse and of the document's valueMay, classOf, operandFault, reuseFault: one same answer each. Condition: the classes of values are 0 or 1. -/
import Derived.Test.YtdilfbdfefppbaaLowB
set_option linter.unusedVariables false
set_option linter.unusedSimpArgs false
namespace Go.Proofs.Ytdilfbdfefppbaa
open Go Go.Abs Go.RowKit

def cls (f : Fun) (v : Int) : Int := f.Values.getD v.toNat default
def _root_.Go.Abs.Mch.reg (m : Mch) (c : Int) : Int := [m.r0, m.r1].getD c.toNat 0
def valB (f : Fun) (v : Int) : Bool := decide (0 ≤ v) && decide (v < f.Values.length)
def VOk (f : Fun) : Prop := f.Values.length ≤ 160 ∧ ∀ c ∈ f.Values, 0 ≤ c ∧ c < 2
theorem cls_ok {f : Fun} (h : VOk f) {v : Int} (hv : valB f v = true) : 0 ≤ cls f v ∧ cls f v < 2 := by
  unfold valB at hv
  simp only [Bool.and_eq_true, decide_eq_true_eq] at hv
  have hlt : v.toNat < f.Values.length := by omega
  unfold cls
  rw [List.getD_eq_getElem?_getD, List.getElem?_eq_getElem hlt]
  exact h.2 _ (List.getElem_mem hlt)
def opdF (f : Fun) (m : Mch) (o : Opd) : Int :=
  if (o.Kind ≠ 1 ∧ o.Kind ≠ 2) ∨ o.Limit < 1 ∨ 5 < o.Limit then 3
  else if valB f o.Value = false then 2
  else if o.Limit = 4 ∧ (o.N < 0 ∨ m.reg (cls f o.Value) ≤ o.N) then 2
  else if (o.Limit ≤ 3 ∧ o.N ≠ 0) ∨ (o.Limit = 5 ∧ (o.Kind ≠ 2 ∨ o.Late = false)) then 4 else 0

theorem c_value (f : Fun) (v : Int) : ACallIs B.P 72 [f.av, .i64 v] (.bool (valB f v)) := by
  refine ACallIs.enter B _ _ Try.func72 rfl rfl Try.ntmps72 Try.results72 rfl fun hreal => ?_
  repeat' (first
    | refine AWp.seq ?_ | refine AWp.block ?_ | refine AWp.skip ?_ | refine AWp.exit ?_
    | refine AWp.region ?_ | refine AWp.draw mixed (by kernel_rfl) ?_
    | refine AWp.cond (And.intro (fun h => ?_) (fun h => ?_))
    | refine AWp.ret ⟨Or.inl rfl, rfl, ?_⟩
    | exact trivial | refine And.intro ?_ ?_ | intro _)
  all_goals first | assumption | (simp_all [tupOf, valB]; done) | skip
  all_goals trace_state
theorem c_classOf (f : Fun) (v : Int) (hv : valB f v = true) : ACallIs B.P 79 [f.av, .i64 v] (.i64 (cls f v)) := by
  refine ACallIs.enter B _ _ Try.func79 rfl rfl Try.ntmps79 Try.results79 rfl fun hreal => ?_
  repeat' (first
    | refine AWp.seq ?_ | refine AWp.block ?_ | refine AWp.skip ?_ | refine AWp.exit ?_
    | refine AWp.region ?_ | refine AWp.draw mixed (by kernel_rfl) ?_
    | refine AWp.cond (And.intro (fun h => ?_) (fun h => ?_))
    | refine AWp.ret ⟨Or.inl rfl, rfl, ?_⟩
    | exact trivial | refine And.intro ?_ ?_ | intro _)
  all_goals first | assumption | (simp [valB] at hv; omega) | rfl | skip
  all_goals trace_state
theorem valB_in (f : Fun) (v : Int) : inB v 0 ((f.Values.length : Int) - 1) = valB f v := by
  unfold inB valB
  rw [Bool.eq_iff_iff]
  simp only [Bool.and_eq_true, decide_eq_true_eq]
  omega
theorem c_valueMay (f : Fun) (hf : f.Values.length ≤ 160) (v : Int) : ACallIs B.P 55 [f.av, .i64 v] (.bool (valB f v)) := by
  have hw : IntKind.i64.wrap ((f.Values.length : Int) - 1) = f.Values.length - 1 := wrap_in (by omega) (by omega)
  refine ACallIs.enter B _ _ Try.func55 rfl rfl Try.ntmps55 Try.results55 rfl fun hreal => ?_
  repeat' (first
    | refine AWp.seq ?_ | refine AWp.block ?_ | refine AWp.skip ?_ | refine AWp.exit ?_
    | refine AWp.region ?_ | refine AWp.draw mixed (by kernel_rfl) ?_
    | refine AWp.cond (And.intro (fun h => ?_) (fun h => ?_))
    | refine AWp.ret ⟨Or.inl rfl, rfl, ?_⟩
    | refine CallX.pure (c_In v 0 (IntKind.i64.wrap ((f.Values.length : Int) - 1))) rfl rfl rfl ?_ | refine CallK.intro (fun _ => c_In v 0 (IntKind.i64.wrap ((f.Values.length : Int) - 1))) ?_
    | exact trivial | refine And.intro ?_ ?_ | intro _)
  all_goals first | assumption | (rw [hw, valB_in]; rfl) | skip
theorem idx_ok {f : Fun} {v : Int} (h : valB f v = true) : 0 ≤ v ∧ v < f.Values.length := by simpa [valB] using h
set_option maxHeartbeats 4000000 in
theorem c_operand (f : Fun) (m : Mch) (o : Opd) (hf : VOk f) : ACallIs B.P 67 [f.av, m.av, o.av] (.i64 (opdF f m o)) := by
  have hc : valB f o.Value = true → 0 ≤ f.Values.getD o.Value.toNat default ∧ f.Values.getD o.Value.toNat default < 2 := fun h => cls_ok hf h
  have hv : valB f o.Value = true → 0 ≤ o.Value ∧ o.Value < f.Values.length := idx_ok
  refine ACallIs.enter B _ _ Try.func67 rfl rfl Try.ntmps67 Try.results67 rfl fun hreal => ?_
  clear hreal
  refine AWp.seq (AWp.region ?_)
  intro _
  refine AWp.freezeObj 3 rfl rfl ?_
  refine AWp.freezeObj 4 rfl rfl ?_
  refine AWp.freezeObj 5 rfl rfl ?_
  repeat' (first
    | refine AWp.seq ?_ | refine AWp.block ?_ | refine AWp.skip ?_ | refine AWp.exit ?_
    | refine AWp.region ?_ | refine AWp.draw mixed (by kernel_rfl) ?_
    | refine AWp.cond (And.intro (fun h => ?_) (fun h => ?_))
    | refine AWp.ret ⟨Or.inl rfl, rfl, ?_⟩
    | refine CallX.pure (c_value f o.Value) rfl rfl rfl ?_ | refine CallK.intro (fun _ => c_value f o.Value) ?_
    | exact trivial | refine And.intro ?_ ?_ | intro _)
  all_goals first | assumption | ((try simp only [tupOf, bif_if, opdF, cls, Mch.reg] at *); grind)
theorem mreg_small {m : Mch} (hm : machF m = 0) (c : Int) : m.reg c ≤ 10 ∧ 0 ≤ m.reg c := by
  unfold machF inB at hm
  unfold Mch.reg
  have : (2 ≤ m.r0 ∧ m.r0 ≤ 10) ∧ (2 ≤ m.r1 ∧ m.r1 ≤ 10) := by
    apply Classical.byContradiction; intro h
    rw [if_neg (by simp only [Bool.and_eq_true, decide_eq_true_eq]; exact h)] at hm; cases hm
  cases c.toNat with
  | zero => show m.r0 ≤ 10 ∧ 0 ≤ m.r0; omega
  | succ n => cases n with
    | zero => show m.r1 ≤ 10 ∧ 0 ≤ m.r1; omega
    | succ n => show (0 : Int) ≤ 10 ∧ (0 : Int) ≤ 0; omega
set_option maxHeartbeats 4000000 in
theorem c_operandFault (f : Fun) (m : Mch) (o : Opd) (hf : VOk f) (hm : machF m = 0) : ACallIs B.P 75 [f.av, m.av, o.av] (.i64 (opdF f m o)) := by
  have hc : valB f o.Value = true → 0 ≤ f.Values.getD o.Value.toNat default ∧ f.Values.getD o.Value.toNat default < 2 := fun h => cls_ok hf h
  have hv : valB f o.Value = true → 0 ≤ o.Value ∧ o.Value < f.Values.length := idx_ok
  have hr := mreg_small hm (cls f o.Value)
  have hw : IntKind.i64.wrap (m.reg (cls f o.Value) - 1) = m.reg (cls f o.Value) - 1 := wrap_in (by omega) (by omega)
  refine ACallIs.enter B _ _ Try.func75 rfl rfl Try.ntmps75 Try.results75 rfl fun hreal => ?_
  clear hreal
  refine AWp.seq (AWp.region ?_)
  intro _
  refine AWp.freezeObj 3 rfl rfl ?_
  refine AWp.freezeObj 4 rfl rfl ?_
  refine AWp.freezeObj 5 rfl rfl ?_
  repeat' (first
    | refine AWp.seq ?_ | refine AWp.block ?_ | refine AWp.skip ?_ | refine AWp.exit ?_
    | refine AWp.region ?_ | refine AWp.draw mixed (by kernel_rfl) ?_
    | refine AWp.cond (And.intro (fun h => ?_) (fun h => ?_))
    | refine AWp.ret ⟨Or.inl rfl, rfl, ?_⟩
    | refine CallX.pure (c_valueMay f hf.1 o.Value) rfl rfl rfl ?_ | refine CallK.intro (fun _ => c_valueMay f hf.1 o.Value) ?_
    | refine CallX.pure (c_classOf f o.Value (by grind)) rfl rfl rfl ?_ | refine CallK.intro (fun _ => c_classOf f o.Value (by grind)) ?_
    | refine CallX.pure (c_In _ _ _) rfl rfl rfl ?_ | refine CallK.intro (fun _ => c_In _ _ _) ?_
    | exact trivial | refine And.intro ?_ ?_ | intro _)
  all_goals first | assumption | ((try simp only [tupOf, bif_if, opdF, cls, Mch.reg, inB] at *); grind)
end Go.Proofs.Ytdilfbdfefppbaa
