/- Contract of shape.Check. Condition: what the function's slices may weigh. -/
import Derived.Test.YtdilfbdfefppbaaShpV
set_option linter.unusedVariables false
set_option linter.unusedSimpArgs false
namespace Go.Proofs.Ytdilfbdfefppbaa
open Go Go.Abs Go.RowKit

set_option maxHeartbeats 1000000 in
theorem c_Check (f : Fun) (m : Mch) (hok : Fun.ok f) : ACallIs B.P 32 [f.av, m.av] (.i64 (chkF f m)) := by
  have hvl : f.Values.length ≤ maxLen := lok_max hok.1 (by decide)
  refine ACallIs.enter B _ _ Try.func32 rfl rfl Try.ntmps32 Try.results32 rfl fun hreal => ?_
  clear hreal
  refine AWp.seq (AWp.region ?_)
  intro _
  refine AWp.freezeObj 2 rfl rfl ?_
  refine AWp.freezeObj 3 rfl rfl ?_
  repeat' (first
    | refine AWp.seq ?_ | refine AWp.block ?_ | refine AWp.skip ?_ | refine AWp.exit ?_
    | refine AWp.region ?_ | refine AWp.draw mixed (by kernel_rfl) ?_
    | refine AWp.cond (And.intro (fun h => ?_) (fun h => ?_))
    | refine AWp.ret ⟨Or.inl rfl, rfl, ?_⟩
    | refine CallX.pure (c_CheckMachine m) rfl rfl rfl ?_ | refine CallK.intro (fun _ => c_CheckMachine m) ?_
    | refine CallX.pure (c_sizes f) rfl rfl rfl ?_ | refine CallK.intro (fun _ => c_sizes f) ?_
    | exact trivial | refine And.intro ?_ ?_ | intro _)
  all_goals first | assumption | exact tupI (chkF_1 (by simpa using ‹(machF m != 0) = true›)).symm | exact tupI (chkF_2 (by simpa using ‹(machF m != 0) = false›) (by simpa using ‹(sizF f != 0) = true›)).symm | refine AWp.loop (fun k : Nat => ⟨[(2, .ptr f.cells), (3, .ptr m.cells), (28, ints f.Values), (29, .i64 f.Values.length), (30, .i64 k)], []⟩) (fun k => k ≤ f.Values.length ∧ ∀ j, j < k → clsG f j = 0) (fun k => f.Values.length - k) 0 ⟨Nat.zero_le _, fun j hj => absurd hj (by omega)⟩ ?_ ?_ | (simp_all; done)
  · repeat' (first | exact rfl | exact trivial | refine And.intro ?_ ?_)
  have hm : machF m = 0 := by simpa using ‹(machF m != 0) = false›
  have hs : sizF f = 0 := by simpa using ‹(sizF f != 0) = false›
  have hz := sizOk_of hs
  intro k hk
  obtain ⟨hk, hg⟩ := hk
  refine AWp.seq (AWp.region ?_)
  intro _
  refine AWp.seq (AWp.cond (And.intro (fun h => ?_) (fun h => ?_)))
  · refine AWp.skip ?_
    have hk' : k < f.Values.length := Int.ofNat_lt.1 (of_decide_eq_true h)
    repeat' (first
      | refine AWp.seq ?_ | refine AWp.block ?_ | refine AWp.skip ?_ | refine AWp.exit ?_
      | refine AWp.region ?_ | refine AWp.draw mixed (by kernel_rfl) ?_
      | refine AWp.cond (And.intro (fun h => ?_) (fun h => ?_))
      | refine AWp.ret ⟨Or.inl rfl, rfl, ?_⟩
      | exact trivial | refine And.intro ?_ ?_ | intro _)
    all_goals first | assumption | exact Int.natCast_nonneg _ | exact Int.ofNat_lt.2 hk' | (refine tupI (chkF_3 hm hs ((firstF_hit (k := k) hk' hg ?_).trans ?_) (by decide)).symm <;> (clear hg; (try simp only [bif_if, Int.toNat_natCast] at *); simp only [clsG]; grind)) | refine round_end (k + 1) ⟨hk', upto hg (by clear hg; (try simp only [bif_if, Int.toNat_natCast] at *); simp only [clsG]; grind)⟩ (by repeat' (first | exact rfl | exact trivial | exact congrArg (fun z => some (AV.i64 z)) (wrap_succ hk' hvl) | refine And.intro ?_ ?_)) (by omega) | (simp_all; done)
  have hk3 : ¬ (k : Int) < f.Values.length := of_decide_eq_false h
  obtain rfl : k = f.Values.length := by omega
  have hc : firstF (clsG f) f.Values.length = 0 := firstF_none hg
  have hv := vOk_of hs hc
  have hb := hz.blocks
  have hbl : f.Blocks.length ≤ maxLen := by unfold maxLen; omega
  clear hg hk h hk3
  refine AWp.exit ?_
  repeat' (first
    | refine AWp.seq ?_ | refine AWp.block ?_ | refine AWp.skip ?_ | refine AWp.exit ?_
    | refine AWp.region ?_ | refine AWp.draw mixed (by kernel_rfl) ?_
    | refine AWp.cond (And.intro (fun h => ?_) (fun h => ?_))
    | refine AWp.ret ⟨Or.inl rfl, rfl, ?_⟩
    | exact trivial | refine And.intro ?_ ?_ | intro _)
  all_goals first | assumption | omega | exact tupI (chkF_4 hm hs hc (Int.ofNat_lt.1 (of_decide_eq_true (by assumption)))).symm | refine AWp.loop (fun k : Nat => ⟨[(2, .ptr f.cells), (3, .ptr m.cells), (49, roL 3 Blk.cells f.Blocks), (50, .i64 f.Blocks.length), (51, .i64 k)], []⟩) (fun k => k ≤ f.Blocks.length ∧ ∀ j, j < k → blkG f m j = 0) (fun k => f.Blocks.length - k) 0 ⟨Nat.zero_le _, fun j hj => absurd hj (by omega)⟩ ?_ ?_ | (simp_all; done)
  · repeat' (first | exact rfl | exact trivial | refine And.intro ?_ ?_)
  have hp : ¬ 0 < (f.Blocks.getD 0 default).Params.length := fun h => absurd (Int.ofNat_lt.2 h) (of_decide_eq_false (by assumption))
  intro k hk
  obtain ⟨hk, hg⟩ := hk
  refine AWp.seq (AWp.region ?_)
  intro _
  refine AWp.seq (AWp.cond (And.intro (fun h => ?_) (fun h => ?_)))
  · refine AWp.skip ?_
    have hk' : k < f.Blocks.length := Int.ofNat_lt.1 (of_decide_eq_true h)
    have hkb := ok_blk hok hk'
    have hil : (f.Blocks.getD k default).Instrs.length ≤ maxLen := lok_max hkb.2.1 (by decide)
    have hel : (f.Blocks.getD k default).Edges.length ≤ maxLen := lok_max hkb.2.2 (by decide)
    have hit : blkG f m k ≠ 0 → chkF f m = blkG f m k := fun h0 => chkF_5 hm hs hc hp (firstF_hit (k := k) hk' hg h0) h0
    refine AWp.seq (AWp.block (AWp.seq (AWp.region ?_)))
    refine And.intro (fun _ => And.intro (Int.natCast_nonneg _) (Int.ofNat_lt.2 hk')) ?_
    intro _
    refine AWp.freezeObj 10 rfl rfl ?_
    refine AWp.seq (AWp.seq (AWp.region ?_))
    intro _
    refine AWp.block (AWp.loop (fun j : Nat => ⟨[(2, .ptr f.cells), (3, .ptr m.cells), (49, roL 3 Blk.cells f.Blocks), (50, .i64 f.Blocks.length), (51, .i64 k), (10, .ptr (f.Blocks.getD k default).cells), (56, roL 3 Ins.cells (f.Blocks.getD k default).Instrs), (57, .i64 (f.Blocks.getD k default).Instrs.length), (58, .i64 j)], []⟩) (fun j => j ≤ (f.Blocks.getD k default).Instrs.length ∧ ∀ a, a < j → insG f m (f.Blocks.getD k default) a = 0) (fun j => (f.Blocks.getD k default).Instrs.length - j) 0 ⟨Nat.zero_le _, fun j hj => absurd hj (by omega)⟩ ?_ ?_)
    · repeat' (first | exact rfl | exact trivial | refine And.intro ?_ ?_)
    intro j hj
    obtain ⟨hj, hgj⟩ := hj
    refine AWp.seq (AWp.region ?_)
    intro _
    refine AWp.seq (AWp.cond (And.intro (fun h => ?_) (fun h => ?_)))
    · refine AWp.skip ?_
      have hj' : j < (f.Blocks.getD k default).Instrs.length := Int.ofNat_lt.1 (of_decide_eq_true h)
      refine AWp.seq (AWp.block (AWp.seq (AWp.region ?_)))
      refine And.intro (fun _ => And.intro (Int.natCast_nonneg _) (Int.ofNat_lt.2 hj')) ?_
      intro _
      refine AWp.freezeObj 12 rfl rfl ?_
      repeat' (first
        | refine AWp.seq ?_ | refine AWp.block ?_ | refine AWp.skip ?_ | refine AWp.exit ?_
        | refine AWp.region ?_ | refine AWp.draw mixed (by kernel_rfl) ?_
        | refine AWp.cond (And.intro (fun h => ?_) (fun h => ?_))
        | refine AWp.ret ⟨Or.inl rfl, rfl, ?_⟩
        | refine CallX.pure (c_instr f m ((f.Blocks.getD k default).Instrs.getD j default) hv hm (hz.ops k j hk' hj') (hz.spo k j hk' hj')) rfl rfl rfl ?_ | refine CallK.intro (fun _ => c_instr f m ((f.Blocks.getD k default).Instrs.getD j default) hv hm (hz.ops k j hk' hj') (hz.spo k j hk' hj')) ?_
        | exact trivial | refine And.intro ?_ ?_ | intro _)
      all_goals first | assumption | (have hb0 : insG f m (f.Blocks.getD k default) j ≠ 0 := (by unfold insG; simpa using ‹(_ != (0 : Int)) = true›); have hb1 := blkF_1 (firstF_hit (k := j) hj' hgj hb0) hb0; exact tupI ((hit (by unfold blkG; rw [hb1]; exact hb0)).trans hb1).symm) | refine round_end (j + 1) ⟨hj', upto hgj (by unfold insG; simpa using ‹(_ != (0 : Int)) = false›)⟩ (by repeat' (first | exact rfl | exact trivial | exact congrArg (fun z => some (AV.i64 z)) (wrap_succ hj' hil) | refine And.intro ?_ ?_)) (by omega) | (simp_all; done)
    have hj3 : ¬ (j : Int) < (f.Blocks.getD k default).Instrs.length := of_decide_eq_false h
    obtain rfl : j = (f.Blocks.getD k default).Instrs.length := by omega
    have hI : firstF (insG f m (f.Blocks.getD k default)) (f.Blocks.getD k default).Instrs.length = 0 := firstF_none hgj
    clear hgj hj h hj3
    refine AWp.exit ?_
    repeat' (first
      | refine AWp.seq ?_ | refine AWp.block ?_ | refine AWp.skip ?_ | refine AWp.exit ?_
      | refine AWp.region ?_ | refine AWp.draw mixed (by kernel_rfl) ?_
      | refine AWp.cond (And.intro (fun h => ?_) (fun h => ?_))
      | refine AWp.ret ⟨Or.inl rfl, rfl, ?_⟩
      | exact trivial | refine And.intro ?_ ?_ | intro _)
    all_goals first | assumption | (have hb1 := blkF_2 hI (by (try simp only [bif_if] at *); grind); exact tupI ((hit (by unfold blkG; rw [hb1]; decide)).trans hb1).symm) | refine AWp.loop (fun j : Nat => ⟨[(2, .ptr f.cells), (3, .ptr m.cells), (49, roL 3 Blk.cells f.Blocks), (50, .i64 f.Blocks.length), (51, .i64 k), (81, roL 2 Edg.cells (f.Blocks.getD k default).Edges), (82, .i64 (f.Blocks.getD k default).Edges.length), (83, .i64 j)], []⟩) (fun j => j ≤ (f.Blocks.getD k default).Edges.length ∧ ∀ a, a < j → edgH f (f.Blocks.getD k default) a = 0) (fun j => (f.Blocks.getD k default).Edges.length - j) 0 ⟨Nat.zero_le _, fun j hj => absurd hj (by omega)⟩ ?_ ?_ | (simp_all; done)
    · repeat' (first | exact rfl | exact trivial | refine And.intro ?_ ?_)
    have hE : ¬ (1 < (f.Blocks.getD k default).Edges.length ∧ (f.Blocks.getD k default).Instrs.length = 0) := by (try simp only [bif_if] at *); grind
    intro j hj
    obtain ⟨hj, hgj⟩ := hj
    refine AWp.seq (AWp.region ?_)
    intro _
    refine AWp.seq (AWp.cond (And.intro (fun h => ?_) (fun h => ?_)))
    · refine AWp.skip ?_
      have hj' : j < (f.Blocks.getD k default).Edges.length := Int.ofNat_lt.1 (of_decide_eq_true h)
      have hje := lok_max (ok_edg hkb hj').2 (by decide)
      refine AWp.seq (AWp.block (AWp.seq (AWp.region ?_)))
      refine And.intro (fun _ => And.intro (Int.natCast_nonneg _) (Int.ofNat_lt.2 hj')) ?_
      intro _
      refine AWp.freezeObj 15 rfl rfl ?_
      repeat' (first
        | refine AWp.seq ?_ | refine AWp.block ?_ | refine AWp.skip ?_ | refine AWp.exit ?_
        | refine AWp.region ?_ | refine AWp.draw mixed (by kernel_rfl) ?_
        | refine AWp.cond (And.intro (fun h => ?_) (fun h => ?_))
        | refine AWp.ret ⟨Or.inl rfl, rfl, ?_⟩
        | refine CallX.pure (c_edge f ((f.Blocks.getD k default).Edges.getD j default) hje) rfl rfl rfl ?_ | refine CallK.intro (fun _ => c_edge f ((f.Blocks.getD k default).Edges.getD j default) hje) ?_
        | exact trivial | refine And.intro ?_ ?_ | intro _)
      all_goals first | assumption | (have hb0 : edgH f (f.Blocks.getD k default) j ≠ 0 := (by unfold edgH; simpa using ‹(_ != (0 : Int)) = true›); have hb1 := blkF_3 hI hE (firstF_hit (k := j) hj' hgj hb0); exact tupI ((hit (by unfold blkG; rw [hb1]; exact hb0)).trans hb1).symm) | refine round_end (j + 1) ⟨hj', upto hgj (by unfold edgH; simpa using ‹(_ != (0 : Int)) = false›)⟩ (by repeat' (first | exact rfl | exact trivial | exact congrArg (fun z => some (AV.i64 z)) (wrap_succ hj' hel) | refine And.intro ?_ ?_)) (by omega) | (simp_all; done)
    have hj3 : ¬ (j : Int) < (f.Blocks.getD k default).Edges.length := of_decide_eq_false h
    refine AWp.exit ?_
    refine AWp.region ?_
    intro _
    refine round_end (k + 1) ⟨hk', upto hg (blkF_3 hI hE (firstF_none (fun a ha => hgj a (by omega))))⟩ (by repeat' (first | exact rfl | exact trivial | exact congrArg (fun z => some (AV.i64 z)) (wrap_succ hk' hbl) | refine And.intro ?_ ?_)) (by omega)
  have hk3 : ¬ (k : Int) < f.Blocks.length := of_decide_eq_false h
  refine AWp.exit ?_
  have hB : firstF (blkG f m) f.Blocks.length = 0 := firstF_none (fun j hj => hg j (by omega))
  repeat' (first
    | refine AWp.seq ?_ | refine AWp.block ?_ | refine AWp.skip ?_ | refine AWp.exit ?_
    | refine AWp.region ?_ | refine AWp.draw mixed (by kernel_rfl) ?_
    | refine AWp.cond (And.intro (fun h => ?_) (fun h => ?_))
    | refine AWp.ret ⟨Or.inl rfl, rfl, ?_⟩
    | refine CallX.pure (c_once f hz) rfl rfl rfl ?_ | refine CallK.intro (fun _ => c_once f hz) ?_
    | exact trivial | refine And.intro ?_ ?_ | intro _)
  all_goals exact tupI (chkF_6 hm hs hc hp hB).symm
end Go.Proofs.Ytdilfbdfefppbaa
