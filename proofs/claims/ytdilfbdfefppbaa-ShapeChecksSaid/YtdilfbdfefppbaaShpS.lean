/- Contract of the closure in shape.once. Condition: none. -/
import Derived.Test.YtdilfbdfefppbaaShpR
set_option linter.unusedVariables false
set_option linter.unusedSimpArgs false
namespace Go.Proofs.Ytdilfbdfefppbaa
open Go Go.Abs Go.RowKit

def oneI (f : Fun) (v : Int) (m : Nat → Bool) : Int := if valB f v = false then 2 else if m v.toNat = true then 7 else 0
def oneM (f : Fun) (v : Int) (m : Nat → Bool) (i : Nat) : Bool := m i || (valB f v && decide (i = v.toNat))
@[reducible] def rowB (n : Nat) (m : Nat → Bool) : HO := .row 4 1 n (fun i => [.bool (m i)])
set_option maxHeartbeats 1000000 in
theorem m_once1 (f : Fun) (v : Int) (m : Nat → Bool) : ACallM B.P 73 ⟨[.i64 v, .ptr f.cells, .obj 1002 0], [(1002, .cells [.sl 1001 f.Values.length]), (1001, rowB f.Values.length m)], .i64 (oneI f v m), [(1002, .cells [.sl 1001 f.Values.length]), (1001, rowB f.Values.length (oneM f v m))]⟩ := by
  have hv : valB f v = true → 0 ≤ v ∧ v < f.Values.length := idx_ok
  refine ACallM.enter B _ _ Try.func73 rfl rfl Try.ntmps73 Try.results73 rfl ?_ fun hreal => ?_
  · refine And.intro ?_ (And.intro ?_ ?_)
    all_goals repeat' (first | exact rfl | exact trivial | refine And.intro ?_ ?_)
  clear hreal
  repeat' (first
    | refine AWp.seq ?_ | refine AWp.block ?_ | refine AWp.skip ?_ | refine AWp.exit ?_
    | refine AWp.region ?_ | refine AWp.draw mixed (by kernel_rfl) ?_
    | refine AWp.cond (And.intro (fun h => ?_) (fun h => ?_))
    | refine AWp.ret ⟨Or.inl rfl, rfl, ?_⟩
    | refine CallX.pure (c_value f v) rfl rfl rfl ?_ | refine CallK.intro (fun _ => c_value f v) ?_
    | exact trivial | refine And.intro ?_ ?_ | intro _)
  all_goals first | exact (hv (by simpa using ‹(!valB f v) = false›)).1 | exact (hv (by simpa using ‹(!valB f v) = false›)).2 | (have := hv (by simpa using ‹(!valB f v) = false›); omega) | (refine AWp.ret (And.intro (Or.inl rfl) ?_); intro _; refine And.intro ?_ (And.intro trivial (And.intro ?_ (And.intro (And.intro rfl trivial) (And.intro ?_ (And.intro trivial trivial))))))
  all_goals first | exact rfl | exact tupI (by unfold oneI; grind) | refine ⟨_, _, rfl, rfl, fun i hi => ?_⟩
  · show [AV.bool (oneM f v m i)] = [AV.bool (m i)]
    rw [show oneM f v m i = m i by unfold oneM; grind]
  · show [AV.bool (oneM f v m i)] = [AV.bool (m i)]
    rw [show oneM f v m i = m i by unfold oneM; grind]
  · show [AV.bool (oneM f v m i)] = if i = v.toNat then [AV.bool true] else [AV.bool (m i)]
    by_cases e : i = v.toNat
    · rw [if_pos e, show oneM f v m i = true by unfold oneM; grind]
    · rw [if_neg e, show oneM f v m i = m i by unfold oneM; grind]
end Go.Proofs.Ytdilfbdfefppbaa
