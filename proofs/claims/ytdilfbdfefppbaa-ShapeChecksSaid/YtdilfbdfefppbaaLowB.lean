/- Contracts of shape.CheckMachine and ostlerref.MachineFault, and of the laws ShapeMachines and ShapeMeets: they hand back true. No condition. -/
import Derived.Test.YtdilfbdfefppbaaLowA
set_option linter.unusedVariables false
set_option linter.unusedSimpArgs false
namespace Go.Proofs.Ytdilfbdfefppbaa
open Go Go.Abs Go.RowKit

theorem c_CheckMachine (m : Mch) : ACallIs B.P 20 [m.av] (.i64 (machF m)) := by
  refine ACallIs.enter B _ _ Try.func20 rfl rfl Try.ntmps20 Try.results20 rfl fun hreal => ?_
  refine AWp.seq (AWp.region ?_)
  intro _
  refine AWp.seq (AWp.seq (AWp.region ?_))
  intro _
  refine AWp.block (AWp.loop (fun k : Nat => ⟨[(6, .agg m.cells), (7, .i64 k)], [(1, .cells m.cells)]⟩) (fun k => k ≤ 2 ∧ (1 ≤ k → inB m.r0 2 10 = true) ∧ (2 ≤ k → inB m.r1 2 10 = true)) (fun k => 2 - k) 0 (by simp) ?_ ?_)
  · repeat' (first | exact rfl | exact trivial | refine And.intro ?_ ?_)
  intro k hk
  obtain rfl | rfl | rfl : k = 0 ∨ k = 1 ∨ k = 2 := by omega
  all_goals
    repeat' (first
      | refine AWp.seq ?_ | refine AWp.block ?_ | refine AWp.skip ?_ | refine AWp.exit ?_
      | refine AWp.region ?_ | refine AWp.draw mixed (by kernel_rfl) ?_
      | refine AWp.cond (And.intro (fun h => ?_) (fun h => ?_))
      | refine AWp.ret ⟨Or.inl rfl, rfl, ?_⟩
      | exact trivial | refine And.intro ?_ ?_ | intro _)
  all_goals first | assumption | (exfalso; simp_all; done) | (simp; done) | (show (_ : Bool) = _; simp_all; done) | skip
  · simp [tupOf, machF, inB] at *; omega
  · refine round_end 1 ?_ ?_ ?_
    · simp [inB] at *; omega
    · repeat' (first | exact rfl | exact trivial | refine And.intro ?_ ?_)
    · omega
  · simp [tupOf, machF, inB] at *; omega
  · refine round_end 2 ?_ ?_ ?_
    · simp [inB] at *; omega
    · repeat' (first | exact rfl | exact trivial | refine And.intro ?_ ?_)
    · omega
  · simp [tupOf, machF, inB] at *; omega

theorem c_MachineFault (m : Mch) : ACallIs B.P 21 [m.av] (.i64 (machF m)) := by
  refine ACallIs.enter B _ _ Try.func21 rfl rfl Try.ntmps21 Try.results21 rfl fun hreal => ?_
  refine AWp.seq (AWp.region ?_)
  intro _
  refine AWp.seq (AWp.seq (AWp.region ?_))
  intro _
  refine AWp.block (AWp.loop (fun k : Nat => ⟨[(3, .i64 k), (1, .obj 1 0)], [(1, .cells m.cells)]⟩) (fun k => k ≤ 2 ∧ (1 ≤ k → inB m.r0 2 10 = true) ∧ (2 ≤ k → inB m.r1 2 10 = true)) (fun k => 2 - k) 0 (by simp) ?_ ?_)
  · repeat' (first | exact rfl | exact trivial | refine And.intro ?_ ?_)
  intro k hk
  obtain rfl | rfl | rfl : k = 0 ∨ k = 1 ∨ k = 2 := by omega
  all_goals
    repeat' (first
      | refine AWp.seq ?_ | refine AWp.block ?_ | refine AWp.skip ?_ | refine AWp.exit ?_
      | refine AWp.region ?_ | refine AWp.draw mixed (by kernel_rfl) ?_
      | refine AWp.cond (And.intro (fun h => ?_) (fun h => ?_))
      | refine AWp.ret ⟨Or.inl rfl, rfl, ?_⟩
      | refine CallX.pure (c_In _ _ _) rfl rfl rfl ?_ | refine CallK.intro (fun _ => c_In _ _ _) ?_
      | exact trivial | refine And.intro ?_ ?_ | intro _)
  all_goals first | assumption | (exfalso; simp_all; done) | (simp; done) | (show (_ : Bool) = _; simp_all; done) | skip
  · simp [tupOf, machF, inB] at *; omega
  · refine round_end 1 ?_ ?_ ?_
    · simp [inB] at *; omega
    · repeat' (first | exact rfl | exact trivial | refine And.intro ?_ ?_)
    · omega
  · simp [tupOf, machF, inB] at *; omega
  · refine round_end 2 ?_ ?_ ?_
    · simp [inB] at *; omega
    · repeat' (first | exact rfl | exact trivial | refine And.intro ?_ ?_)
    · omega
  · simp [tupOf, machF, inB] at *; omega

theorem c_l_ShapeMeets (a b : Opd) : ACallIs B.P 8 [a.av, b.av] (.bool true) := by
  refine ACallIs.enter B _ _ Try.func8 rfl rfl Try.ntmps8 Try.results8 rfl fun hreal => ?_
  repeat' (first
    | refine AWp.seq ?_ | refine AWp.block ?_ | refine AWp.skip ?_ | refine AWp.exit ?_
    | refine AWp.region ?_ | refine AWp.draw mixed (by kernel_rfl) ?_
    | refine AWp.cond (And.intro (fun h => ?_) (fun h => ?_))
    | refine AWp.ret ⟨Or.inl rfl, rfl, ?_⟩
    | refine CallX.pure (c_Meet a b) rfl rfl rfl ?_ | refine CallK.intro (fun _ => c_Meet a b) ?_
    | refine CallX.pure (c_Apart a b) rfl rfl rfl ?_ | refine CallK.intro (fun _ => c_Apart a b) ?_
    | exact trivial | refine And.intro ?_ ?_ | intro _)
  all_goals first | assumption | (exfalso; simp_all; done) | (simp_all [tupOf]; done) | skip

theorem c_l_ShapeMachines (m : Mch) : ACallIs B.P 6 [m.av] (.bool true) := by
  refine ACallIs.enter B _ _ Try.func6 rfl rfl Try.ntmps6 Try.results6 rfl fun hreal => ?_
  repeat' (first
    | refine AWp.seq ?_ | refine AWp.block ?_ | refine AWp.skip ?_ | refine AWp.exit ?_
    | refine AWp.region ?_ | refine AWp.draw mixed (by kernel_rfl) ?_
    | refine AWp.cond (And.intro (fun h => ?_) (fun h => ?_))
    | refine AWp.ret ⟨Or.inl rfl, rfl, ?_⟩
    | refine CallX.pure (c_CheckMachine m) rfl rfl rfl ?_ | refine CallK.intro (fun _ => c_CheckMachine m) ?_
    | refine CallX.pure (c_MachineFault m) rfl rfl rfl ?_ | refine CallK.intro (fun _ => c_MachineFault m) ?_
    | exact trivial | refine And.intro ?_ ?_ | intro _)
  all_goals first | assumption | (exfalso; simp_all; done) | (simp_all [tupOf]; done) | skip
end Go.Proofs.Ytdilfbdfefppbaa
