/- Contracts of the smallest functions: In, value, classOf, Meet, Apart, CheckMachine, MachineFault. No condition. -/
import Derived.Test.YtdilfbdfefppbaaTab
set_option linter.unusedVariables false
set_option linter.unusedSimpArgs false
namespace Go.Proofs.Ytdilfbdfefppbaa
open Go Go.Abs Go.RowKit

def inB (n lo hi : Int) : Bool := decide (lo ≤ n) && decide (n ≤ hi)
def apartB (a b : Opd) : Bool :=
  if a.Kind = 1 ∧ b.Kind = 1 then a.Value != b.Value
  else if a.Kind = 2 ∧ b.Kind = 2 then true
  else if a.Kind = 2 then b.Late || !a.Late
  else a.Late || !b.Late
def machF (m : Mch) : Int := if inB m.r0 2 10 && inB m.r1 2 10 then 0 else 2

theorem c_In (n low high : Int) : ACallIs B.P 39 [.i64 n, .i64 low, .i64 high] (.bool (inB n low high)) := by
  refine ACallIs.enter B _ _ Try.func39 rfl rfl Try.ntmps39 Try.results39 (by simp) fun hreal => ?_
  repeat' (first
    | refine AWp.seq ?_ | refine AWp.block ?_ | refine AWp.skip ?_ | refine AWp.exit ?_
    | refine AWp.region ?_ | refine AWp.draw mixed (by kernel_rfl) ?_
    | refine AWp.cond (And.intro (fun h => ?_) (fun h => ?_))
    | refine AWp.ret ⟨Or.inl rfl, rfl, ?_⟩
    | refine And.intro ?_ ?_ | intro _)
  all_goals first | assumption | simp_all [tupOf, inB]

theorem c_Meet1 (a b : Opd) (h2 : ¬ a.Kind = 2 ∨ b.Kind = 2) : ACallIs B.P 24 [a.av, b.av] (.bool (apartB a b)) := by
  refine ACallIs.enter B _ _ Try.func24 rfl rfl Try.ntmps24 Try.results24 (by simp) fun hreal => ?_
  repeat' (first
    | refine AWp.seq ?_ | refine AWp.block ?_ | refine AWp.skip ?_ | refine AWp.exit ?_
    | refine AWp.region ?_ | refine AWp.draw mixed (by kernel_rfl) ?_
    | refine AWp.cond (And.intro (fun h => ?_) (fun h => ?_))
    | refine AWp.ret ⟨Or.inl rfl, rfl, ?_⟩
    | refine And.intro ?_ ?_ | intro _)
  all_goals first | assumption | (exfalso; simp_all; done) | (simp_all [tupOf, apartB]; done) | skip
theorem c_Meet (a b : Opd) : ACallIs B.P 24 [a.av, b.av] (.bool (apartB a b)) := by
  by_cases h2 : ¬ a.Kind = 2 ∨ b.Kind = 2
  · exact c_Meet1 a b h2
  have h3 : a.Kind = 2 ∧ ¬ b.Kind = 2 := by simp at h2; exact h2
  have hm := c_Meet1 b a (.inl h3.2)
  refine ACallIs.enter B _ _ Try.func24 rfl rfl Try.ntmps24 Try.results24 (by simp) fun hreal => ?_
  repeat' (first
    | refine AWp.seq ?_ | refine AWp.block ?_ | refine AWp.skip ?_ | refine AWp.exit ?_
    | refine AWp.region ?_ | refine AWp.draw mixed (by kernel_rfl) ?_
    | refine AWp.cond (And.intro (fun h => ?_) (fun h => ?_))
    | refine AWp.ret ⟨Or.inl rfl, rfl, ?_⟩
    | refine CallK.intro (fun _ => hm) ?_
    | refine And.intro ?_ ?_ | intro _)
  all_goals first | assumption | (exfalso; simp_all; done) | (simp_all [tupOf, apartB]; done) | skip
theorem c_Apart (a b : Opd) : ACallIs B.P 25 [a.av, b.av] (.bool (apartB a b)) := by
  refine ACallIs.enter B _ _ Try.func25 rfl rfl Try.ntmps25 Try.results25 (by simp) fun hreal => ?_
  repeat' (first
    | refine AWp.seq ?_ | refine AWp.block ?_ | refine AWp.skip ?_ | refine AWp.exit ?_
    | refine AWp.region ?_ | refine AWp.draw mixed (by kernel_rfl) ?_
    | refine AWp.cond (And.intro (fun h => ?_) (fun h => ?_))
    | refine AWp.ret ⟨Or.inl rfl, rfl, ?_⟩
    | refine And.intro ?_ ?_ | intro _)
  all_goals first | assumption | (exfalso; simp_all; done) | (simp_all [tupOf, apartB]; done) | skip
end Go.Proofs.Ytdilfbdfefppbaa
