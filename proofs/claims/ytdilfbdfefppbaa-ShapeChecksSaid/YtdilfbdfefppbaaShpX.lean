/- Contract of the document's ShapeFault. Condition: what the function's slices may weigh. -/
import Derived.Test.YtdilfbdfefppbaaShpW
set_option linter.unusedVariables false
set_option linter.unusedSimpArgs false
namespace Go.Proofs.Ytdilfbdfefppbaa
open Go Go.Abs Go.RowKit

theorem anyB_take {L : List Int} {v : Int} {k : Nat} (hk : k ≤ L.length) : anyB (isI (fun j => L.getD (0 + j) default) v) k = decide (v ∈ L.take k) := by
  rw [← anyB_mem, List.length_take, Nat.min_eq_left hk]
  refine anyB_congr fun j hj => ?_
  unfold isI
  simp only [Nat.zero_add]
  rw [List.getD_eq_getElem?_getD, List.getD_eq_getElem?_getD, List.getElem?_take_of_lt hj]
theorem badG_2 {f : Fun} {L : List Int} {k : Nat} (h : valB f (L.getD k default) = false) : badG f L k = 2 := if_pos h
theorem badG_7 {f : Fun} {L : List Int} {k : Nat} (h : valB f (L.getD k default) = true) (h2 : L.getD k default ∈ L.take k) : badG f L k = 7 := by unfold badG bad; rw [if_neg (by rw [h]; decide), if_pos h2]
theorem badG_0 {f : Fun} {L : List Int} {k : Nat} (h : valB f (L.getD k default) = true) (h2 : ¬ L.getD k default ∈ L.take k) : badG f L k = 0 := by unfold badG bad; rw [if_neg (by rw [h]; decide), if_neg h2]
theorem onceF_1 {f : Fun} {v : Int} (h : firstF (badG f (makL f)) (makL f).length = v) (hv : v ≠ 0) : onceF f = v := by unfold onceF; rw [h, if_pos hv]
theorem onceF_2 {f : Fun} (h : firstF (badG f (makL f)) (makL f).length = 0) : onceF f = if (makL f).length < f.Values.length then 6 else 0 := by unfold onceF; rw [h, if_neg (fun h => h rfl)]
set_option maxHeartbeats 1000000 in
theorem c_ShapeFault (f : Fun) (m : Mch) (hok : Fun.ok f) : ACallIs B.P 33 [f.av, m.av] (.i64 (chkF f m)) := by
  have hvl : f.Values.length ≤ maxLen := lok_max hok.1 (by decide)
  have hbi : ∀ k, (f.Blocks.getD k default).Instrs.length ≤ 140737488351232 := fun k => by
    by_cases hk : k < f.Blocks.length
    · have := (ok_blk hok hk).2.1.1
      omega
    · rw [List.getD_eq_getElem?_getD, List.getElem?_eq_none (by omega)]; exact Nat.zero_le _
  refine ACallIs.enter B _ _ Try.func33 rfl rfl Try.ntmps33 Try.results33 rfl fun hreal => ?_
  clear hreal
  refine AWp.seq (AWp.region ?_)
  intro _
  refine AWp.freezeObj 2 rfl rfl ?_
  refine AWp.freezeObj 3 rfl rfl ?_
  repeat' (first
    | refine AWp.seq ?_ | refine AWp.block ?_ | refine AWp.skip ?_ | refine AWp.exit ?_
    | refine AWp.region ?_ | refine AWp.draw mixed (by kernel_rfl) ?_
    | refine AWp.cond (And.intro (fun h => ?_) (fun h => ?_))
    | refine AWp.ret ⟨Or.inl rfl, rfl, ?_⟩
    | refine CallX.pure (c_MachineFault m) rfl rfl rfl ?_ | refine CallK.intro (fun _ => c_MachineFault m) ?_
    | refine CallX.pure (c_bigFault f hbi) rfl rfl rfl ?_ | refine CallK.intro (fun _ => c_bigFault f hbi) ?_
    | exact trivial | refine And.intro ?_ ?_ | intro _)
  all_goals first | assumption | (have hm0 : machF m ≠ 0 := (by simp_all); exact tupI (chkF_1 hm0).symm) | (have hm0 : machF m = 0 := (by simpa using ‹(machF m == 0) = true›); have hs0 : sizF f ≠ 0 := (by simp_all); exact tupI (chkF_2 hm0 hs0).symm) | skip
  all_goals first | (exfalso; simp_all; done) | skip
  refine AWp.loop (fun k : Nat => ⟨[(2, .ptr f.cells), (3, .ptr m.cells), (6, .i64 k)], []⟩) (fun k => k ≤ f.Values.length ∧ ∀ j, j < k → clsG f j = 0) (fun k => f.Values.length - k) 0 ⟨Nat.zero_le _, fun j hj => absurd hj (by omega)⟩ ?_ ?_
  · repeat' (first | exact rfl | exact trivial | refine And.intro ?_ ?_)
  have hm : machF m = 0 := by simpa using ‹(machF m == 0) = true›
  have hs : sizF f = 0 := by simpa using ‹(sizF f != 0) = false›
  have hz := sizOk_of hs
  intro k hk
  obtain ⟨hk, hg⟩ := hk
  refine AWp.seq (AWp.seq (AWp.region ?_))
  intro _
  refine AWp.cond (And.intro (fun h => ?_) (fun h => ?_))
  · refine AWp.skip ?_
    have hk' : k < f.Values.length := Int.ofNat_lt.1 (of_decide_eq_true h)
    repeat' (first
      | refine AWp.seq ?_ | refine AWp.block ?_ | refine AWp.skip ?_ | refine AWp.exit ?_
      | refine AWp.region ?_ | refine AWp.draw mixed (by kernel_rfl) ?_
      | refine AWp.cond (And.intro (fun h => ?_) (fun h => ?_))
      | refine AWp.ret ⟨Or.inl rfl, rfl, ?_⟩
      | refine CallX.pure (c_In (f.Values.getD k default) 0 1) rfl rfl rfl ?_ | refine CallK.intro (fun _ => c_In (f.Values.getD k default) 0 1) ?_
      | exact trivial | refine And.intro ?_ ?_ | intro _)
    all_goals first | assumption | exact Int.natCast_nonneg _ | exact Int.ofNat_lt.2 hk' | (refine tupI (chkF_3 hm hs ((firstF_hit (k := k) hk' hg ?_).trans ?_) (by decide)).symm <;> (clear hg; (try simp only [bif_if, Int.toNat_natCast, inB] at *); simp only [clsG]; grind)) | refine round_end (k + 1) ⟨hk', upto hg (by clear hg; (try simp only [bif_if, Int.toNat_natCast, inB] at *); simp only [clsG]; grind)⟩ (by repeat' (first | exact rfl | exact trivial | exact congrArg (fun z => some (AV.i64 z)) (wrap_succ hk' hvl) | refine And.intro ?_ ?_)) (by omega) | (simp_all; done)
  have hk3 : ¬ (k : Int) < f.Values.length := of_decide_eq_false h
  obtain rfl : k = f.Values.length := by omega
  have hc : firstF (clsG f) f.Values.length = 0 := firstF_none hg
  have hv := vOk_of hs hc
  have hb := hz.blocks
  have hbl : f.Blocks.length ≤ maxLen := by unfold maxLen; omega
  clear hg hk h hk3
  refine AWp.exit ?_
  repeat' (first
    | refine AWp.seq ?_ | refine AWp.block ?_ | refine AWp.skip ?_ | refine AWp.exit ?_
    | refine AWp.region ?_ | refine AWp.draw mixed (by kernel_rfl) ?_
    | refine AWp.cond (And.intro (fun h => ?_) (fun h => ?_))
    | refine AWp.ret ⟨Or.inl rfl, rfl, ?_⟩
    | exact trivial | refine And.intro ?_ ?_ | intro _)
  all_goals first | assumption | omega | exact tupI (chkF_4 hm hs hc (Int.ofNat_lt.1 (of_decide_eq_true (by assumption)))).symm | refine AWp.loop (fun k : Nat => ⟨[(2, .ptr f.cells), (3, .ptr m.cells), (7, .i64 k)], []⟩) (fun k => k ≤ f.Blocks.length ∧ ∀ j, j < k → blkG f m j = 0) (fun k => f.Blocks.length - k) 0 ⟨Nat.zero_le _, fun j hj => absurd hj (by omega)⟩ ?_ ?_
  · repeat' (first | exact rfl | exact trivial | refine And.intro ?_ ?_)
  have hp : ¬ 0 < (f.Blocks.getD 0 default).Params.length := fun h => absurd (Int.ofNat_lt.2 h) (of_decide_eq_false (by assumption))
  intro k hk
  obtain ⟨hk, hg⟩ := hk
  refine AWp.seq (AWp.seq (AWp.region ?_))
  intro _
  refine AWp.cond (And.intro (fun h => ?_) (fun h => ?_))
  · refine AWp.skip ?_
    have hk' : k < f.Blocks.length := Int.ofNat_lt.1 (of_decide_eq_true h)
    have hkb := ok_blk hok hk'
    have hil : (f.Blocks.getD k default).Instrs.length ≤ maxLen := lok_max hkb.2.1 (by decide)
    have hel : (f.Blocks.getD k default).Edges.length ≤ maxLen := lok_max hkb.2.2 (by decide)
    have hit : blkG f m k ≠ 0 → chkF f m = blkG f m k := fun h0 => chkF_5 hm hs hc hp (firstF_hit (k := k) hk' hg h0) h0
    refine AWp.seq (AWp.block (AWp.seq (AWp.region ?_)))
    refine And.intro (fun _ => And.intro (Int.natCast_nonneg _) (Int.ofNat_lt.2 hk')) ?_
    intro _
    refine AWp.freezeObj 8 rfl rfl ?_
    refine AWp.seq (AWp.seq (AWp.region ?_))
    intro _
    refine AWp.block (AWp.loop (fun j : Nat => ⟨[(2, .ptr f.cells), (3, .ptr m.cells), (7, .i64 k), (8, .ptr (f.Blocks.getD k default).cells), (9, .i64 j)], []⟩) (fun j => j ≤ (f.Blocks.getD k default).Instrs.length ∧ ∀ a, a < j → insG f m (f.Blocks.getD k default) a = 0) (fun j => (f.Blocks.getD k default).Instrs.length - j) 0 ⟨Nat.zero_le _, fun j hj => absurd hj (by omega)⟩ ?_ ?_)
    · repeat' (first | exact rfl | exact trivial | refine And.intro ?_ ?_)
    intro j hj
    obtain ⟨hj, hgj⟩ := hj
    refine AWp.seq (AWp.seq (AWp.region ?_))
    intro _
    refine AWp.cond (And.intro (fun h => ?_) (fun h => ?_))
    · refine AWp.skip ?_
      have hj' : j < (f.Blocks.getD k default).Instrs.length := Int.ofNat_lt.1 (of_decide_eq_true h)
      repeat' (first
        | refine AWp.seq ?_ | refine AWp.block ?_ | refine AWp.skip ?_ | refine AWp.exit ?_
        | refine AWp.region ?_ | refine AWp.draw mixed (by kernel_rfl) ?_
        | refine AWp.cond (And.intro (fun h => ?_) (fun h => ?_))
        | refine AWp.ret ⟨Or.inl rfl, rfl, ?_⟩
        | refine CallX.pure (c_instrFault f m ((f.Blocks.getD k default).Instrs.getD j default) hv hm (hz.ops k j hk' hj') (hz.spo k j hk' hj')) rfl rfl rfl ?_ | refine CallK.intro (fun _ => c_instrFault f m ((f.Blocks.getD k default).Instrs.getD j default) hv hm (hz.ops k j hk' hj') (hz.spo k j hk' hj')) ?_
        | exact trivial | refine And.intro ?_ ?_ | intro _)
      all_goals first | assumption | exact Int.natCast_nonneg _ | exact Int.ofNat_lt.2 hj' | (have hb0 : insG f m (f.Blocks.getD k default) j ≠ 0 := (by unfold insG; simpa using ‹(_ != (0 : Int)) = true›); have hb1 := blkF_1 (firstF_hit (k := j) hj' hgj hb0) hb0; exact tupI ((hit (by unfold blkG; rw [hb1]; exact hb0)).trans hb1).symm) | refine round_end (j + 1) ⟨hj', upto hgj (by unfold insG; simpa using ‹(_ != (0 : Int)) = false›)⟩ (by repeat' (first | exact rfl | exact trivial | exact congrArg (fun z => some (AV.i64 z)) (wrap_succ hj' hil) | refine And.intro ?_ ?_)) (by omega)
    have hj3 : ¬ (j : Int) < (f.Blocks.getD k default).Instrs.length := of_decide_eq_false h
    obtain rfl : j = (f.Blocks.getD k default).Instrs.length := by omega
    have hI : firstF (insG f m (f.Blocks.getD k default)) (f.Blocks.getD k default).Instrs.length = 0 := firstF_none hgj
    clear hgj hj h hj3
    refine AWp.exit ?_
    repeat' (first
      | refine AWp.seq ?_ | refine AWp.block ?_ | refine AWp.skip ?_ | refine AWp.exit ?_
      | refine AWp.region ?_ | refine AWp.draw mixed (by kernel_rfl) ?_
      | refine AWp.cond (And.intro (fun h => ?_) (fun h => ?_))
      | refine AWp.ret ⟨Or.inl rfl, rfl, ?_⟩
      | exact trivial | refine And.intro ?_ ?_ | intro _)
    all_goals first | assumption | (have hb1 := blkF_2 hI (by (try simp only [bif_if] at *); grind); exact tupI ((hit (by unfold blkG; rw [hb1]; decide)).trans hb1).symm) | refine AWp.loop (fun j : Nat => ⟨[(2, .ptr f.cells), (3, .ptr m.cells), (7, .i64 k), (8, .ptr (f.Blocks.getD k default).cells), (10, .i64 j)], []⟩) (fun j => j ≤ (f.Blocks.getD k default).Edges.length ∧ ∀ a, a < j → edgH f (f.Blocks.getD k default) a = 0) (fun j => (f.Blocks.getD k default).Edges.length - j) 0 ⟨Nat.zero_le _, fun j hj => absurd hj (by omega)⟩ ?_ ?_ | (simp_all; done)
    · repeat' (first | exact rfl | exact trivial | refine And.intro ?_ ?_)
    have hE : ¬ (1 < (f.Blocks.getD k default).Edges.length ∧ (f.Blocks.getD k default).Instrs.length = 0) := by (try simp only [bif_if] at *); grind
    intro j hj
    obtain ⟨hj, hgj⟩ := hj
    refine AWp.seq (AWp.seq (AWp.region ?_))
    intro _
    refine AWp.cond (And.intro (fun h => ?_) (fun h => ?_))
    · refine AWp.skip ?_
      have hj' : j < (f.Blocks.getD k default).Edges.length := Int.ofNat_lt.1 (of_decide_eq_true h)
      have hje := lok_max (ok_edg hkb hj').2 (by decide)
      repeat' (first
        | refine AWp.seq ?_ | refine AWp.block ?_ | refine AWp.skip ?_ | refine AWp.exit ?_
        | refine AWp.region ?_ | refine AWp.draw mixed (by kernel_rfl) ?_
        | refine AWp.cond (And.intro (fun h => ?_) (fun h => ?_))
        | refine AWp.ret ⟨Or.inl rfl, rfl, ?_⟩
        | refine CallX.pure (c_edgeFault f ((f.Blocks.getD k default).Edges.getD j default) hv hb.2 hje) rfl rfl rfl ?_ | refine CallK.intro (fun _ => c_edgeFault f ((f.Blocks.getD k default).Edges.getD j default) hv hb.2 hje) ?_
        | exact trivial | refine And.intro ?_ ?_ | intro _)
      all_goals first | assumption | exact Int.natCast_nonneg _ | exact Int.ofNat_lt.2 hj' | (have hb0 : edgH f (f.Blocks.getD k default) j ≠ 0 := (by unfold edgH; simpa using ‹(_ != (0 : Int)) = true›); have hb1 := blkF_3 hI hE (firstF_hit (k := j) hj' hgj hb0); exact tupI ((hit (by unfold blkG; rw [hb1]; exact hb0)).trans hb1).symm) | refine round_end (j + 1) ⟨hj', upto hgj (by unfold edgH; simpa using ‹(_ != (0 : Int)) = false›)⟩ (by repeat' (first | exact rfl | exact trivial | exact congrArg (fun z => some (AV.i64 z)) (wrap_succ hj' hel) | refine And.intro ?_ ?_)) (by omega)
    have hj3 : ¬ (j : Int) < (f.Blocks.getD k default).Edges.length := of_decide_eq_false h
    refine AWp.exit ?_
    refine AWp.region ?_
    intro _
    refine round_end (k + 1) ⟨hk', upto hg (blkF_3 hI hE (firstF_none (fun a ha => hgj a (by omega))))⟩ (by repeat' (first | exact rfl | exact trivial | exact congrArg (fun z => some (AV.i64 z)) (wrap_succ hk' hbl) | refine And.intro ?_ ?_)) (by omega)
  have hk3 : ¬ (k : Int) < f.Blocks.length := of_decide_eq_false h
  refine AWp.exit ?_
  have hB : firstF (blkG f m) f.Blocks.length = 0 := firstF_none (fun j hj => hg j (by omega))
  have hF := chkF_6 hm hs hc hp hB
  have hML : (makL f).length ≤ maxLen := by
    have := mkB_len hz f.Blocks.length (Nat.le_refl _)
    unfold makL maxLen; omega
  clear hg hk h hk3
  refine AWp.seq (AWp.region ?_)
  refine CallX.pure (c_makers f hz) rfl rfl rfl ?_
  intro _
  refine AWp.seq (AWp.seq (AWp.region ?_))
  intro _
  refine AWp.block (AWp.loop (fun k : Nat => ⟨[(2, .ptr f.cells), (11, ints (makL f)), (12, .i64 k)], []⟩) (fun k => k ≤ (makL f).length ∧ ∀ j, j < k → badG f (makL f) j = 0) (fun k => (makL f).length - k) 0 ⟨Nat.zero_le _, fun j hj => absurd hj (by omega)⟩ ?_ ?_)
  · repeat' (first | exact rfl | exact trivial | refine And.intro ?_ ?_)
  intro k hk
  obtain ⟨hk, hg⟩ := hk
  refine AWp.seq (AWp.seq (AWp.region ?_))
  intro _
  refine AWp.cond (And.intro (fun h => ?_) (fun h => ?_))
  · refine AWp.skip ?_
    have hk' : k < (makL f).length := Int.ofNat_lt.1 (of_decide_eq_true h)
    have hh := c_hasR (fun j => (makL f).getD (0 + j) default) k ((makL f).getD k default) (by omega)
    rw [anyB_take (by omega)] at hh
    repeat' (first
      | refine AWp.seq ?_ | refine AWp.block ?_ | refine AWp.skip ?_ | refine AWp.exit ?_
      | refine AWp.region ?_ | refine AWp.draw mixed (by kernel_rfl) ?_
      | refine AWp.cond (And.intro (fun h => ?_) (fun h => ?_))
      | refine AWp.ret ⟨Or.inl rfl, rfl, ?_⟩
      | refine CallX.pure (c_valueMay f hz.values ((makL f).getD k default)) rfl rfl rfl ?_ | refine CallK.intro (fun _ => c_valueMay f hz.values ((makL f).getD k default)) ?_
      | refine CallX.pure (hh) rfl rfl rfl ?_ | refine CallK.intro (fun _ => hh) ?_
      | exact trivial | refine And.intro ?_ ?_ | intro _)
    all_goals first | assumption | exact Int.natCast_nonneg _ | exact Int.ofNat_lt.2 hk' | (exact tupI (hF.trans (onceF_1 ((firstF_hit (k := k) hk' hg (by rw [badG_2 (by simp_all)]; decide)).trans (badG_2 (by simp_all))) (by decide))).symm) | (have h7 := badG_7 (f := f) (L := makL f) (k := k) (by simp_all) (by simp_all); exact tupI (hF.trans (onceF_1 ((firstF_hit (k := k) hk' hg (by rw [h7]; decide)).trans h7) (by decide))).symm) | refine round_end (k + 1) ⟨hk', upto hg (badG_0 (by simp_all) (by simp_all))⟩ (by repeat' (first | exact rfl | exact trivial | exact congrArg (fun z => some (AV.i64 z)) (wrap_succ hk' hML) | refine And.intro ?_ ?_)) (by omega) | omega | (simp_all; done)
  have hk3 : ¬ (k : Int) < (makL f).length := of_decide_eq_false h
  refine AWp.exit ?_
  have hO := hF.trans (onceF_2 (firstF_none (fun j hj => hg j (by omega))))
  repeat' (first
    | refine AWp.seq ?_ | refine AWp.block ?_ | refine AWp.skip ?_ | refine AWp.exit ?_
    | refine AWp.region ?_ | refine AWp.draw mixed (by kernel_rfl) ?_
    | refine AWp.cond (And.intro (fun h => ?_) (fun h => ?_))
    | refine AWp.ret ⟨Or.inl rfl, rfl, ?_⟩
    | exact trivial | refine And.intro ?_ ?_ | intro _)
  all_goals clear hF hg
  all_goals exact tupI (by rw [hO]; grind)
end Go.Proofs.Ytdilfbdfefppbaa
