/- Contracts of the smallest functions. Conditions: as each says. -/
import Derived.Test.YtjjgjflbhpoloaaTab
set_option linter.unusedVariables false
set_option linter.unusedSimpArgs false
/- Contracts of the smallest functions: In, value, classOf, Meet, Apart, CheckMachine, MachineFault. No condition. -/
namespace Go.Proofs.Ytjjgjflbhpoloaa
open Go Go.Abs Go.RowKit
theorem bif_if {α : Type} (b : Bool) (x y : α) : (bif b then x else y) = if b = true then x else y := by cases b <;> rfl
def firstF (g : Nat → Int) : Nat → Int
 | 0 => 0
 | n + 1 => if g 0 ≠ 0 then g 0 else firstF (fun i => g (i + 1)) n
theorem firstF_hit : ∀ {n : Nat} {g : Nat → Int} {k : Nat}, k < n → (∀ j, j < k → g j = 0) → g k ≠ 0 → firstF g n = g k
 | 0, _, _, h, _, _ => by omega
 | n + 1, g, 0, _, _, h => by unfold firstF; rw [if_pos h]
 | n + 1, g, k + 1, hk, hj, h => by
  unfold firstF
  rw [if_neg (by simpa using hj 0 (by omega))]
  exact firstF_hit (g := fun i => g (i + 1)) (by omega) (fun j hj' => hj (j + 1) (by omega)) h
theorem firstF_none : ∀ {n : Nat} {g : Nat → Int}, (∀ j, j < n → g j = 0) → firstF g n = 0
 | 0, _, _ => rfl
 | n + 1, g, h => by
  unfold firstF
  rw [if_neg (by simpa using h 0 (by omega))]
  exact firstF_none fun j hj => h (j + 1) (by omega)
theorem firstF_zero : ∀ {n : Nat} {g : Nat → Int}, firstF g n = 0 → ∀ j, j < n → g j = 0
 | 0, _, _, _, h => by omega
 | n + 1, g, h, j, hj => by
  unfold firstF at h
  split at h
  ·rename_i hne; exact absurd h hne
  ·rename_i h0
   cases j with
   | zero => simpa using h0
   | succ j => exact firstF_zero (g := fun i => g (i + 1)) h j (by omega)
def inB (n lo hi : Int) : Bool := decide (lo ≤ n) && decide (n ≤ hi)
def machF (m : Mch) : Int := if inB m.r0 2 10 && inB m.r1 2 10 then 0 else 2
theorem c_In (n low high : Int) : ACallIs B.P 35 [.i64 n, .i64 low, .i64 high] (.bool (inB n low high)) := by
 refine ACallIs.enter B _ _ Try.func35 rfl rfl Try.ntmps35 Try.results35 rfl fun hreal => ?_
 repeat' (first
  | apply zq | apply zb | apply zk | apply ze
  | apply zr | refine AWp.draw mixed (by kernel_rfl) ?_
  | refine AWp.cond (And.intro (fun h => ?_) (fun h => ?_))
  | refine AWp.ret ⟨Or.inl rfl, rfl, ?_⟩
  | exact trivial | refine And.intro ?_ ?_ | intro _)
 all_goals first|assumption|simp_all [tupOf, inB]
end Go.Proofs.Ytjjgjflbhpoloaa
/- Contracts of shape.CheckMachine and ostlerref.MachineFault, and of the laws ShapeMachines and ShapeMeets: they hand back true. No condition. -/
namespace Go.Proofs.Ytjjgjflbhpoloaa
open Go Go.Abs Go.RowKit
theorem c_MachineFault (m : Mch) : ACallIs B.P 34 [m.av] (.i64 (machF m)) := by
 refine ACallIs.enter B _ _ Try.func34 rfl rfl Try.ntmps34 Try.results34 rfl fun hreal => ?_
 refine AWp.seq (AWp.region ?_)
 intro _
 refine AWp.seq (AWp.seq (AWp.region ?_))
 intro _
 refine AWp.block (AWp.loop (fun k : Nat => ⟨[(3, .i64 k), (1, .obj 1 0)], [(1, .cells m.cells)]⟩) (fun k => k ≤ 2 ∧ (1 ≤ k → inB m.r0 2 10 = true) ∧ (2 ≤ k → inB m.r1 2 10 = true)) (fun k => 2 - k) 0 (by simp) ?_ ?_)
 ·repeat' (first|exact rfl|exact trivial|refine And.intro ?_ ?_)
 intro k hk
 obtain rfl | rfl | rfl : k = 0 ∨ k = 1 ∨ k = 2 := by omega
 all_goals
  repeat' (first
   | apply zq | apply zb | apply zk | apply ze
   | apply zr | refine AWp.draw mixed (by kernel_rfl) ?_
   | refine AWp.cond (And.intro (fun h => ?_) (fun h => ?_))
   | refine AWp.ret ⟨Or.inl rfl, rfl, ?_⟩
   | refine CallX.pure (c_In _ _ _) rfl rfl rfl ?_ | refine CallK.intro (fun _ => c_In _ _ _) ?_
   | exact trivial | refine And.intro ?_ ?_ | intro _)
 all_goals first|assumption|(exfalso; simp_all; done)|(simp; done)|(show (_ : Bool) = _; simp_all; done)|skip
 ·simp [tupOf, machF, inB] at *; omega
 ·refine round_end 1 ?_ ?_ ?_
  ·simp [inB] at *; omega
  ·repeat' (first|exact rfl|exact trivial|refine And.intro ?_ ?_)
  ·omega
 ·simp [tupOf, machF, inB] at *; omega
 ·refine round_end 2 ?_ ?_ ?_
  ·simp [inB] at *; omega
  ·repeat' (first|exact rfl|exact trivial|refine And.intro ?_ ?_)
  ·omega
 ·simp [tupOf, machF, inB] at *; omega
end Go.Proofs.Ytjjgjflbhpoloaa
/- Contracts of ints, sameInts, run.Mix and ostlerref.Mixed: one same number. Condition of ints: the row is no longer than 2^44 numbers. -/
namespace Go.Proofs.Ytjjgjflbhpoloaa
open Go Go.Abs Go.RowKit
theorem c_ints (l : List Int) (hl : l.length * 8 ≤ 140737488355328) : ACallIs B.P 12 [ints l] (ints l) := by
 refine ACallIs.enter B _ _ Try.func12 rfl rfl Try.ntmps12 Try.results12 rfl fun hreal => ?_
 refine AWp.seq (AWp.region ?_)
 intro _
 refine AWp.seq (AWp.region ?_)
 refine And.intro (fun i hi => rfl) ?_
 refine And.intro (by simpa using hl) ?_
 intro _
 refine AWp.freeze 4 (fun i => intC (l.getD i default)) rfl (fun i hi => rfl) ?_
 refine AWp.ret ⟨Or.inl rfl, rfl, ?_⟩
 intro _
 rfl
end Go.Proofs.Ytjjgjflbhpoloaa
/- Contracts of joinedInts, run.Made, ostlerref.madeBy, MadeOf. Condition: the rows together are no longer than 2^44 numbers. -/
namespace Go.Proofs.Ytjjgjflbhpoloaa
open Go Go.Abs Go.RowKit
end Go.Proofs.Ytjjgjflbhpoloaa
/- Contracts of run.Takes, ostlerref.TakesOf and the law RunTakes. Condition: the row is no longer than 2^44 - 3 numbers. -/
namespace Go.Proofs.Ytjjgjflbhpoloaa
open Go Go.Abs Go.RowKit
end Go.Proofs.Ytjjgjflbhpoloaa
/- Contracts of live.Starts, ostlerref.startOf, StartsOf. Condition: the function's blocks weigh no more than what came in may. -/
namespace Go.Proofs.Ytjjgjflbhpoloaa
open Go Go.Abs Go.RowKit
end Go.Proofs.Ytjjgjflbhpoloaa
