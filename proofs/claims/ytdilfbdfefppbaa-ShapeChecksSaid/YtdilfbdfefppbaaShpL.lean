/- Contract of the document's edgeFault. Condition: the values' classes, the sizes. -/
import Derived.Test.YtdilfbdfefppbaaShpK
set_option linter.unusedVariables false
set_option linter.unusedSimpArgs false
namespace Go.Proofs.Ytdilfbdfefppbaa
open Go Go.Abs Go.RowKit

set_option maxHeartbeats 1000000 in
theorem c_edgeFault (f : Fun) (e : Edg) (hf : VOk f) (hb : f.Blocks.length ≤ 16) (hlen : e.Args.length ≤ maxLen) : ACallIs B.P 53 [f.av, e.av] (.i64 (edgF f e)) := by
  have hw : IntKind.i64.wrap ((f.Blocks.length : Int) - 1) = f.Blocks.length - 1 := wrap_in (by omega) (by omega)
  refine ACallIs.enter B _ _ Try.func53 rfl rfl Try.ntmps53 Try.results53 rfl fun hreal => ?_
  clear hreal
  refine AWp.seq (AWp.region ?_)
  intro _
  refine AWp.freezeObj 2 rfl rfl ?_
  refine AWp.freezeObj 3 rfl rfl ?_
  repeat' (first
    | refine AWp.seq ?_ | refine AWp.block ?_ | refine AWp.skip ?_ | refine AWp.exit ?_
    | refine AWp.region ?_ | refine AWp.draw mixed (by kernel_rfl) ?_
    | refine AWp.cond (And.intro (fun h => ?_) (fun h => ?_))
    | refine AWp.ret ⟨Or.inl rfl, rfl, ?_⟩
    | refine CallX.pure (c_In e.Block 1 _) rfl rfl rfl ?_ | refine CallK.intro (fun _ => c_In e.Block 1 _) ?_
    | exact trivial | refine And.intro ?_ ?_ | intro _)
  all_goals first | assumption | exact tupI (edgF_1 (by (try simp only [bif_if, inB] at *); grind)).symm | exact tupI (edgF_2 (by (try simp only [bif_if, inB] at *); grind) (by (try simp only [bif_if, edgP] at *); grind)).symm | refine AWp.loop (fun k : Nat => ⟨[(2, .ptr f.cells), (3, .ptr e.cells), (5, ints (edgP f e)), (6, .i64 k)], []⟩) (fun k => k ≤ e.Args.length ∧ ∀ j, j < k → edgG f e j = 0) (fun k => e.Args.length - k) 0 ⟨Nat.zero_le _, fun j hj => absurd hj (by omega)⟩ ?_ ?_ | ((try simp only [bif_if, inB] at *); grind)
  · repeat' (first | exact rfl | exact trivial | refine And.intro ?_ ?_)
  have hop : ¬ (e.Block < 1 ∨ (f.Blocks.length : Int) ≤ e.Block) := by (try simp only [bif_if, inB] at *); grind
  have hel : e.Args.length = (edgP f e).length := by unfold edgP; (try simp only [bif_if] at *); grind
  intro k hk
  obtain ⟨hk, hg⟩ := hk
  refine AWp.seq (AWp.seq (AWp.region ?_))
  intro _
  refine AWp.cond (And.intro (fun h => ?_) (fun h => ?_))
  · refine AWp.skip ?_
    have hk' : k < e.Args.length := by have := of_decide_eq_true h; omega
    repeat' (first
      | refine AWp.seq ?_ | refine AWp.block ?_ | refine AWp.skip ?_ | refine AWp.exit ?_
      | refine AWp.region ?_ | refine AWp.draw mixed (by kernel_rfl) ?_
      | refine AWp.cond (And.intro (fun h => ?_) (fun h => ?_))
      | refine AWp.ret ⟨Or.inl rfl, rfl, ?_⟩
      | refine CallX.pure (c_valueMay f hf.1 (e.Args.getD k default)) rfl rfl rfl ?_ | refine CallK.intro (fun _ => c_valueMay f hf.1 (e.Args.getD k default)) ?_
      | refine CallX.pure (c_valueMay f hf.1 ((edgP f e).getD k default)) rfl rfl rfl ?_ | refine CallK.intro (fun _ => c_valueMay f hf.1 ((edgP f e).getD k default)) ?_
      | refine CallX.pure (c_classOf f (e.Args.getD k default) (by grind)) rfl rfl rfl ?_ | refine CallK.intro (fun _ => c_classOf f (e.Args.getD k default) (by grind)) ?_
      | refine CallX.pure (c_classOf f ((edgP f e).getD k default) (by grind)) rfl rfl rfl ?_ | refine CallK.intro (fun _ => c_classOf f ((edgP f e).getD k default) (by grind)) ?_
      | exact trivial | refine And.intro ?_ ?_ | intro _)
    all_goals first | assumption | exact Int.natCast_nonneg _ | exact Int.ofNat_lt.2 hk' | exact Int.ofNat_lt.2 (by omega) | (refine tupI (edgF_3 hop hel ((firstF_hit (k := k) hk' hg ?_).trans ?_)).symm <;> (clear hg; (try simp only [bif_if, Int.toNat_natCast] at *); grind [edgG_2, edgG_17])) | refine round_end (k + 1) ⟨hk', upto hg (by clear hg; (try simp only [bif_if, Int.toNat_natCast] at *); grind [edgG_0])⟩ (by repeat' (first | exact rfl | exact trivial | exact congrArg (fun z => some (AV.i64 z)) (wrap_succ hk' hlen) | refine And.intro ?_ ?_)) (by omega) | ((try simp only [bif_if, Int.toNat_natCast] at *); grind)
  have hk3 : ¬ (k : Int) < (edgP f e).length := of_decide_eq_false h
  refine AWp.exit ?_
  refine AWp.seq (AWp.region ?_)
  intro _
  refine AWp.ret ⟨Or.inl rfl, rfl, ?_⟩
  intro _
  exact tupI (edgF_3 hop hel (firstF_none (fun j hj => hg j (by omega)))).symm
end Go.Proofs.Ytdilfbdfefppbaa
