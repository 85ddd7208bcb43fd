/- Contract of the document's bigFault. Condition: what the instructions of a block may weigh. -/
import Derived.Test.YtdilfbdfefppbaaShpM
set_option linter.unusedVariables false
set_option linter.unusedSimpArgs false
namespace Go.Proofs.Ytdilfbdfefppbaa
open Go Go.Abs Go.RowKit

set_option maxHeartbeats 1000000 in
theorem c_bigFault (f : Fun) (hi : ∀ k, (f.Blocks.getD k default).Instrs.length ≤ 140737488351232) : ACallIs B.P 51 [f.av] (.i64 (sizF f)) := by
  refine ACallIs.enter B _ _ Try.func51 rfl rfl Try.ntmps51 Try.results51 rfl fun hreal => ?_
  clear hreal
  refine AWp.seq (AWp.region ?_)
  intro _
  refine AWp.freezeObj 1 rfl rfl ?_
  repeat' (first
    | refine AWp.seq ?_ | refine AWp.block ?_ | refine AWp.skip ?_ | refine AWp.exit ?_
    | refine AWp.region ?_ | refine AWp.draw mixed (by kernel_rfl) ?_
    | refine AWp.cond (And.intro (fun h => ?_) (fun h => ?_))
    | refine AWp.ret ⟨Or.inl rfl, rfl, ?_⟩
    | refine CallX.pure (c_In _ 1 16) rfl rfl rfl ?_ | refine CallK.intro (fun _ => c_In _ 1 16) ?_
    | exact trivial | refine And.intro ?_ ?_ | intro _)
  all_goals first | assumption | exact tupI (sizF_1 (by (try simp only [bif_if, inB] at *); grind)).symm | refine AWp.loop (fun k : Nat => ⟨[(1, .ptr f.cells), (3, .i64 (allF f.Blocks k)), (4, .i64 k)], []⟩) (fun k => k ≤ f.Blocks.length ∧ allF f.Blocks k ≤ 160 ∧ ∀ j, j < k → sizG f.Blocks j = 0) (fun k => f.Blocks.length - k) 0 ⟨Nat.zero_le _, Nat.zero_le _, fun j hj => absurd hj (by omega)⟩ ?_ ?_ | ((try simp only [bif_if, inB] at *); grind)
  · repeat' (first | exact rfl | exact trivial | refine And.intro ?_ ?_)
  have hop : ¬ (f.Blocks.length < 1 ∨ 16 < f.Blocks.length ∨ 160 < f.Values.length) := by (try simp only [bif_if, inB] at *); grind
  have hlen : f.Blocks.length ≤ maxLen := by unfold maxLen; omega
  intro k hk
  obtain ⟨hk, ha, hg⟩ := hk
  refine AWp.seq (AWp.seq (AWp.region ?_))
  intro _
  refine AWp.cond (And.intro (fun h => ?_) (fun h => ?_))
  · refine AWp.skip ?_
    have hk' : k < f.Blocks.length := by have := of_decide_eq_true h; omega
    have hS : allF f.Blocks (k + 1) = allF f.Blocks k + (f.Blocks.getD k default).Instrs.length := rfl
    have hik := hi k
    have hw : IntKind.i64.wrap ((allF f.Blocks k : Int) + (f.Blocks.getD k default).Instrs.length) = ((allF f.Blocks (k + 1) : Nat) : Int) := by rw [hS, wrap_in (by omega) (by omega)]; omega
    refine AWp.seq (AWp.block (AWp.seq (AWp.region ?_)))
    refine And.intro (fun _ => And.intro (Int.natCast_nonneg _) (Int.ofNat_lt.2 hk')) ?_
    intro _
    refine AWp.freezeObj 5 rfl rfl ?_
    repeat' (first
      | refine AWp.seq ?_ | refine AWp.block ?_ | refine AWp.skip ?_ | refine AWp.exit ?_
      | refine AWp.region ?_ | refine AWp.draw mixed (by kernel_rfl) ?_
      | refine AWp.cond (And.intro (fun h => ?_) (fun h => ?_))
      | refine AWp.ret ⟨Or.inl rfl, rfl, ?_⟩
      | exact trivial | refine And.intro ?_ ?_ | intro _)
    all_goals first | assumption | exact Int.natCast_nonneg _ | exact Int.ofNat_lt.2 hk' | exact tupI (sizF_2 hop ((firstF_hit (k := k) hk' hg (by rw [sizG_1 (by clear hg; (try simp only [bif_if, Int.toNat_natCast] at *); grind)]; decide)).trans (sizG_1 (by clear hg; (try simp only [bif_if, Int.toNat_natCast] at *); grind)))).symm | refine AWp.loop (fun j : Nat => ⟨[(1, .ptr f.cells), (3, .i64 (allF f.Blocks (k + 1))), (4, .i64 k), (5, .ptr (f.Blocks.getD k default).cells), (6, .i64 j)], []⟩) (fun j => j ≤ (f.Blocks.getD k default).Instrs.length ∧ ∀ a, a < j → sizI (f.Blocks.getD k default) a = 0) (fun j => (f.Blocks.getD k default).Instrs.length - j) 0 ⟨Nat.zero_le _, fun j hj => absurd hj (by omega)⟩ ?_ ?_ | ((try simp only [bif_if, Int.toNat_natCast] at *); grind)
    · repeat' (first | exact rfl | exact trivial | exact congrArg (fun z => some (AV.i64 z)) hw | refine And.intro ?_ ?_)
    intro j hj
    obtain ⟨hj, hgj⟩ := hj
    have hng : ¬ (5 < (f.Blocks.getD k default).Params.length ∨ 40 < (f.Blocks.getD k default).Instrs.length ∨ 3 < (f.Blocks.getD k default).Edges.length ∨ 160 < allF f.Blocks (k + 1)) := (by clear hg hgj; (try simp only [bif_if, Int.toNat_natCast] at *); grind)
    have hli : (f.Blocks.getD k default).Instrs.length ≤ maxLen := by unfold maxLen; omega
    refine AWp.seq (AWp.seq (AWp.region ?_))
    intro _
    refine AWp.cond (And.intro (fun h => ?_) (fun h => ?_))
    · refine AWp.skip ?_
      have hj' : j < (f.Blocks.getD k default).Instrs.length := by have := of_decide_eq_true h; omega
      repeat' (first
        | refine AWp.seq ?_ | refine AWp.block ?_ | refine AWp.skip ?_ | refine AWp.exit ?_
        | refine AWp.region ?_ | refine AWp.draw mixed (by kernel_rfl) ?_
        | refine AWp.cond (And.intro (fun h => ?_) (fun h => ?_))
        | refine AWp.ret ⟨Or.inl rfl, rfl, ?_⟩
        | exact trivial | refine And.intro ?_ ?_ | intro _)
      all_goals first | assumption | exact Int.natCast_nonneg _ | exact Int.ofNat_lt.2 hj' | exact tupI (sizF_2 hop ((firstF_hit (k := k) hk' hg (by rw [sizG_2 hng (firstF_hit (k := j) hj' hgj (by clear hg hgj; simp only [sizI]; (try simp only [bif_if, Int.toNat_natCast] at *); grind))]; exact (by clear hg hgj; simp only [sizI]; (try simp only [bif_if, Int.toNat_natCast] at *); grind))).trans (sizG_2 hng ((firstF_hit (k := j) hj' hgj (by clear hg hgj; simp only [sizI]; (try simp only [bif_if, Int.toNat_natCast] at *); grind)).trans (by clear hg hgj; simp only [sizI]; (try simp only [bif_if, Int.toNat_natCast] at *); grind))))).symm | refine round_end (j + 1) ⟨hj', upto hgj (by clear hg hgj; simp only [sizI]; (try simp only [bif_if, Int.toNat_natCast] at *); grind)⟩ (by repeat' (first | exact rfl | exact trivial | exact congrArg (fun z => some (AV.i64 z)) (wrap_succ hj' hli) | refine And.intro ?_ ?_)) (by omega) | ((try simp only [bif_if, Int.toNat_natCast] at *); grind)
    have hj3 : ¬ (j : Int) < (f.Blocks.getD k default).Instrs.length := of_decide_eq_false h
    refine AWp.exit ?_
    refine AWp.region ?_
    intro _
    refine round_end (k + 1) ⟨hk', by omega, upto hg (sizG_2 hng (firstF_none (fun a ha => hgj a (by omega))))⟩ (by repeat' (first | exact rfl | exact trivial | exact congrArg (fun z => some (AV.i64 z)) (wrap_succ hk' hlen) | refine And.intro ?_ ?_)) (by omega)
  have hk3 : ¬ (k : Int) < f.Blocks.length := of_decide_eq_false h
  refine AWp.exit ?_
  refine AWp.seq (AWp.region ?_)
  intro _
  refine AWp.ret ⟨Or.inl rfl, rfl, ?_⟩
  intro _
  exact tupI (sizF_2 hop (firstF_none (fun j hj => hg j (by omega)))).symm
end Go.Proofs.Ytdilfbdfefppbaa
