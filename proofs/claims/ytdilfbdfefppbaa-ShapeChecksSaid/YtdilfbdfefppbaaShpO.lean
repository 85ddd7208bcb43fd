/- Contract of the document's has. -/
import Derived.Test.YtdilfbdfefppbaaShpN
set_option linter.unusedVariables false
set_option linter.unusedSimpArgs false
namespace Go.Proofs.Ytdilfbdfefppbaa
open Go Go.Abs Go.RowKit

def isI (g : Nat → Int) (n : Int) (j : Nat) : Bool := g j == n
set_option maxHeartbeats 1000000 in
theorem c_hasR (g : Nat → Int) (m : Nat) (n : Int) (hlen : m ≤ maxLen) : ACallIs B.P 56 [.ro 1 m (fun i => intC (g i)), .i64 n] (.bool (anyB (isI g n) m)) := by
  refine ACallIs.enter B _ _ Try.func56 rfl rfl Try.ntmps56 Try.results56 rfl fun hreal => ?_
  clear hreal
  refine AWp.seq (AWp.region ?_)
  intro _
  refine AWp.seq (AWp.seq (AWp.region ?_))
  intro _
  refine AWp.block (AWp.loop (fun k : Nat => ⟨[(0, .ro 1 m (fun i => intC (g i))), (1, .i64 n), (5, .i64 k)], []⟩) (fun k => k ≤ m ∧ ∀ j, j < k → isI g n j = false) (fun k => m - k) 0 ⟨Nat.zero_le _, fun j hj => absurd hj (by omega)⟩ ?_ ?_)
  · repeat' (first | exact rfl | exact trivial | refine And.intro ?_ ?_)
  intro k hk
  obtain ⟨hk, hg⟩ := hk
  repeat' (first
    | refine AWp.seq ?_ | refine AWp.block ?_ | refine AWp.skip ?_ | refine AWp.exit ?_
    | refine AWp.region ?_ | refine AWp.draw mixed (by kernel_rfl) ?_
    | refine AWp.cond (And.intro (fun h => ?_) (fun h => ?_))
    | refine AWp.ret ⟨Or.inl rfl, rfl, ?_⟩
    | exact trivial | refine And.intro ?_ ?_ | intro _)
  all_goals first | assumption | exact tupB (anyB_none (n := m) (fun j hj => hg j (by grind))).symm | refine tupB (anyB_hit (k := k) (n := m) (by grind) ?_).symm | refine round_end (k + 1) ⟨by grind, upto hg ?_⟩ (by repeat' (first | exact rfl | exact trivial | exact congrArg (fun z => some (AV.i64 z)) (wrap_succ (show k < m from by grind) hlen) | refine And.intro ?_ ?_)) (by grind) | skip
  all_goals first | assumption | ((try clear hg); (try simp only [Int.toNat_natCast, Bool.cond_true_left, Bool.cond_false_right, Bool.or_eq_true, Bool.and_eq_true, Bool.or_eq_false_iff, Bool.and_eq_false_iff, beq_eq_false_iff_ne, Bool.not_eq_true', Bool.not_eq_false', decide_eq_true_eq, decide_eq_false_iff_not, beq_iff_eq, isI] at *); (try simp only [bif_if] at *); ((skip) <;> grind))
theorem anyB_mem {l : List Int} {n : Int} : anyB (isI (fun i => l.getD i default) n) l.length = decide (n ∈ l) := by
  by_cases h : n ∈ l
  · obtain ⟨i, hi, rfl⟩ := List.getElem_of_mem h
    rw [decide_eq_true h]
    exact anyB_hit (k := i) hi (by unfold isI; show (l.getD i default == l[i]) = true; rw [List.getD_eq_getElem?_getD, List.getElem?_eq_getElem hi]; simp)
  · rw [decide_eq_false h]
    refine anyB_none fun j hj => ?_
    unfold isI
    show (l.getD j default == n) = false
    rw [List.getD_eq_getElem?_getD, List.getElem?_eq_getElem hj]
    simp only [Option.getD_some, beq_eq_false_iff_ne, ne_eq]
    exact fun e => h (e ▸ List.getElem_mem hj)
theorem c_has (l : List Int) (n : Int) (hlen : l.length ≤ maxLen) : ACallIs B.P 56 [ints l, .i64 n] (.bool (decide (n ∈ l))) := by
  rw [← anyB_mem]; exact c_hasR _ _ n hlen
def isB (m : Nat → Bool) (b : Bool) (j : Nat) : Bool := b == m j
set_option maxHeartbeats 1000000 in
theorem c_IndexBool (m : Nat → Bool) (n : Nat) (b : Bool) (hlen : n ≤ maxLen) : ACallIs B.P 94 [.ro 1 n (fun i => [.bool (m i)]), .bool b] (.i64 (idxF (isB m b) n)) := by
  refine ACallIs.enter B _ _ Try.func94 rfl rfl Try.ntmps94 Try.results94 rfl fun hreal => ?_
  clear hreal
  refine AWp.seq (AWp.region ?_)
  intro _
  refine AWp.seq (AWp.seq (AWp.region ?_))
  intro _
  refine AWp.block (AWp.loop (fun k : Nat => ⟨[(0, .ro 1 n (fun i => [.bool (m i)])), (1, .bool b), (7, .i64 n), (8, .i64 k)], []⟩) (fun k => k ≤ n ∧ ∀ j, j < k → isB m b j = false) (fun k => n - k) 0 ⟨Nat.zero_le _, fun j hj => absurd hj (by omega)⟩ ?_ ?_)
  · repeat' (first | exact rfl | exact trivial | refine And.intro ?_ ?_)
  intro k hk
  obtain ⟨hk, hg⟩ := hk
  repeat' (first
    | refine AWp.seq ?_ | refine AWp.block ?_ | refine AWp.skip ?_ | refine AWp.exit ?_
    | refine AWp.region ?_ | refine AWp.draw mixed (by kernel_rfl) ?_
    | refine AWp.cond (And.intro (fun h => ?_) (fun h => ?_))
    | refine AWp.ret ⟨Or.inl rfl, rfl, ?_⟩
    | exact trivial | refine And.intro ?_ ?_ | intro _)
  all_goals first | assumption | exact tupI (idxF_none (n := n) (fun j hj => hg j (by grind))).symm | refine tupI (idxF_hit (k := k) (n := n) (by grind) hg ?_).symm | refine round_end (k + 1) ⟨by grind, upto hg ?_⟩ (by repeat' (first | exact rfl | exact trivial | exact congrArg (fun z => some (AV.i64 z)) (wrap_succ (show k < n from by grind) hlen) | refine And.intro ?_ ?_)) (by grind) | skip
  all_goals first | assumption | ((try clear hg); (try simp only [Int.toNat_natCast, Bool.cond_true_left, Bool.cond_false_right, Bool.or_eq_true, Bool.and_eq_true, Bool.or_eq_false_iff, Bool.and_eq_false_iff, beq_eq_false_iff_ne, Bool.not_eq_true', Bool.not_eq_false', decide_eq_true_eq, decide_eq_false_iff_not, beq_iff_eq, isB] at *); (try simp only [bif_if] at *); ((skip) <;> grind))
theorem c_ContainsBool (m : Nat → Bool) (n : Nat) (b : Bool) (hlen : n ≤ maxLen) : ACallIs B.P 74 [.ro 1 n (fun i => [.bool (m i)]), .bool b] (.bool (anyB (isB m b) n)) := by
  refine ACallIs.enter B _ _ Try.func74 rfl rfl Try.ntmps74 Try.results74 rfl fun hreal => ?_
  clear hreal
  repeat' (first
    | refine AWp.seq ?_ | refine AWp.block ?_ | refine AWp.skip ?_ | refine AWp.exit ?_
    | refine AWp.region ?_ | refine AWp.draw mixed (by kernel_rfl) ?_
    | refine AWp.cond (And.intro (fun h => ?_) (fun h => ?_))
    | refine AWp.ret ⟨Or.inl rfl, rfl, ?_⟩
    | refine CallX.pure (c_IndexBool m n b hlen) rfl rfl rfl ?_ | refine CallK.intro (fun _ => c_IndexBool m n b hlen) ?_
    | exact trivial | refine And.intro ?_ ?_ | intro _)
  exact tupB (idxF_any _ _)
end Go.Proofs.Ytdilfbdfefppbaa
