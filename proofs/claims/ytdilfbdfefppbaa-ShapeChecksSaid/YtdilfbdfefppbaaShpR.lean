/- Contract of the document's makers. Condition: the sizes may be. -/
import Derived.Test.YtdilfbdfefppbaaShpQ
set_option linter.unusedVariables false
set_option linter.unusedSimpArgs false
namespace Go.Proofs.Ytdilfbdfefppbaa
open Go Go.Abs Go.RowKit

@[reducible] def rowI (L : List Int) : HO := .row 3 1 L.length (fun i => intC (L.getD i default))
theorem len_snoc (L : List Int) (v : Int) : L.length + 1 = (L ++ [v]).length := by simp
theorem snoc_row {L : List Int} {v : Int} {i : Nat} (hi : i < (L ++ [v]).length) : intC ((L ++ [v]).getD i default) = if i < L.length then intC (L.getD i default) else ([[AV.val (Value.int IntKind.i64 v)]].getD (i - L.length) []) := by
  by_cases h : i < L.length
  · rw [if_pos h, List.getD_eq_getElem?_getD, List.getD_eq_getElem?_getD, List.getElem?_append_left h]
  · have e : i = L.length := by have := len_snoc L v; omega
    subst e
    rw [if_neg h, Nat.sub_self, List.getD_eq_getElem?_getD]; simp
set_option maxHeartbeats 1000000 in
theorem c_makers (f : Fun) (hz : SizOk f) : ACallIs B.P 54 [f.av] (ints (makL f)) := by
  have hlen : f.Blocks.length ≤ maxLen := by have := hz.blocks; unfold maxLen; omega
  refine ACallIs.enter B _ _ Try.func54 rfl rfl Try.ntmps54 Try.results54 rfl fun hreal => ?_
  clear hreal
  refine AWp.seq (AWp.region ?_)
  intro _
  refine AWp.freezeObj 1 rfl rfl ?_
  refine AWp.seq (AWp.region ?_)
  intro _
  refine AWp.adopt 3 3 3 1 rfl rfl rfl ?_
  refine AWp.seq (AWp.seq (AWp.region ?_))
  intro _
  refine AWp.block (AWp.loop (fun k : Nat => ⟨[(1, .ptr f.cells), (3, .sl 3 (mkB f.Blocks k).length), (4, .i64 k)], [(3, rowI (mkB f.Blocks k))]⟩) (fun k => k ≤ f.Blocks.length) (fun k => f.Blocks.length - k) 0 (Nat.zero_le _) ?_ ?_)
  · refine And.intro ?_ ?_
    · repeat' (first | exact rfl | exact trivial | refine And.intro ?_ ?_)
    · exact And.intro ⟨_, _, rfl, rfl, fun i hi => absurd hi (by simp [mkB])⟩ (And.intro trivial trivial)
  intro k hk
  refine AWp.seq (AWp.seq (AWp.region ?_))
  intro _
  refine AWp.cond (And.intro (fun h => ?_) (fun h => ?_))
  · refine AWp.skip ?_
    have hk' : k < f.Blocks.length := by have := of_decide_eq_true h; omega
    have hp := hz.params k hk'
    have hB := mkB_len hz k (by omega)
    have hk16 := hz.blocks.2
    refine AWp.seq (AWp.block (AWp.seq (AWp.region ?_)))
    refine And.intro (fun _ => And.intro (Int.natCast_nonneg _) (Int.ofNat_lt.2 hk')) ?_
    intro _
    refine AWp.freezeObj 5 rfl rfl ?_
    refine AWp.seq (AWp.seq (AWp.region ?_))
    intro _
    refine AWp.block (AWp.loop (fun j : Nat => ⟨[(1, .ptr f.cells), (3, .sl 3 (mkB f.Blocks k ++ (f.Blocks.getD k default).Params.take j).length), (4, .i64 k), (5, .ptr (f.Blocks.getD k default).cells), (6, .i64 j)], [(3, rowI (mkB f.Blocks k ++ (f.Blocks.getD k default).Params.take j))]⟩) (fun j => j ≤ (f.Blocks.getD k default).Params.length) (fun j => (f.Blocks.getD k default).Params.length - j) 0 (Nat.zero_le _) ?_ ?_)
    · skip
      rw [show mkB f.Blocks k ++ (f.Blocks.getD k default).Params.take 0 = mkB f.Blocks k by simp]
      refine And.intro ?_ ?_
      · repeat' (first | exact rfl | exact trivial | refine And.intro ?_ ?_)
      · exact And.intro ⟨_, _, rfl, rfl, fun i hi => rfl⟩ (And.intro trivial trivial)
    · intro j hj
      have hpl : (f.Blocks.getD k default).Params.length ≤ maxLen := by unfold maxLen; omega
      refine AWp.seq (AWp.seq (AWp.region ?_))
      intro _
      refine AWp.cond (And.intro (fun h => ?_) (fun h => ?_))
      · refine AWp.skip ?_
        have hj' : j < (f.Blocks.getD k default).Params.length := by have := of_decide_eq_true h; omega
        have hL : (mkB f.Blocks k ++ (f.Blocks.getD k default).Params.take j).length ≤ 245 * 16 + 5 := by rw [List.length_append, List.length_take]; omega
        have hS : mkB f.Blocks k ++ (f.Blocks.getD k default).Params.take (j + 1) = (mkB f.Blocks k ++ (f.Blocks.getD k default).Params.take j) ++ [(f.Blocks.getD k default).Params.getD j default] := by rw [take_succ_getD hj', List.append_assoc]
        refine AWp.seq (AWp.block (AWp.region ?_))
        refine And.intro (fun _ => And.intro (Int.natCast_nonneg _) (Int.ofNat_lt.2 hj')) ?_
        refine And.intro (Nat.le_refl _) (And.intro (fun i hi => ?_) (And.intro rfl (And.intro (by omega) ?_)))
        · have e : i = 0 := by omega
          subst e; rfl
        intro _
        refine AWp.rename 35 3 rfl rfl ?_
        refine AWp.region ?_
        intro _
        refine round_end (j + 1) hj' ?_ (by omega)
        rw [hS]
        refine And.intro ?_ ?_
        · repeat' (first | exact rfl | exact trivial | exact congrArg (fun z => some (AV.i64 z)) (wrap_succ hj' hpl) | refine And.intro ?_ ?_)
          exact congrArg (fun n => some (AV.sl 3 n)) (len_snoc _ _)
        · exact And.intro ⟨_, _, rfl, len_snoc _ _, fun i hi => snoc_row hi⟩ (And.intro trivial trivial)
      have hj3 : ¬ (j : Int) < (f.Blocks.getD k default).Params.length := of_decide_eq_false h
      obtain rfl : j = (f.Blocks.getD k default).Params.length := by omega
      refine AWp.exit ?_
      refine AWp.seq (AWp.region ?_)
      intro _
      have hin := hz.instrs k hk'
      have hil : (f.Blocks.getD k default).Instrs.length ≤ maxLen := by unfold maxLen; omega
      refine AWp.block (AWp.loop (fun j : Nat => ⟨[(1, .ptr f.cells), (3, .sl 3 (mkB f.Blocks k ++ ((f.Blocks.getD k default).Params ++ mkI (f.Blocks.getD k default) j)).length), (4, .i64 k), (5, .ptr (f.Blocks.getD k default).cells), (7, .i64 j)], [(3, rowI (mkB f.Blocks k ++ ((f.Blocks.getD k default).Params ++ mkI (f.Blocks.getD k default) j)))]⟩) (fun j => j ≤ (f.Blocks.getD k default).Instrs.length) (fun j => (f.Blocks.getD k default).Instrs.length - j) 0 (Nat.zero_le _) ?_ ?_)
      · rw [show mkB f.Blocks k ++ ((f.Blocks.getD k default).Params ++ mkI (f.Blocks.getD k default) 0) = mkB f.Blocks k ++ (f.Blocks.getD k default).Params.take (f.Blocks.getD k default).Params.length by simp [mkI]]
        refine And.intro ?_ ?_
        · repeat' (first | exact rfl | exact trivial | refine And.intro ?_ ?_)
        · exact And.intro ⟨_, _, rfl, rfl, fun i hi => rfl⟩ (And.intro trivial trivial)
      clear h hj hj3
      intro j hj
      refine AWp.seq (AWp.seq (AWp.region ?_))
      intro _
      refine AWp.cond (And.intro (fun h => ?_) (fun h => ?_))
      · refine AWp.skip ?_
        have hj' : j < (f.Blocks.getD k default).Instrs.length := by have := of_decide_eq_true h; omega
        have hop := hz.ops k j hk' hj'
        have hol : ((f.Blocks.getD k default).Instrs.getD j default).Operands.length ≤ maxLen := by unfold maxLen; omega
        have hI := mkI_len (fun j hj => hz.ops k j hk' hj) j (by omega)
        refine AWp.seq (AWp.block (AWp.seq (AWp.region ?_)))
        intro _
        refine AWp.block (AWp.loop (fun i : Nat => ⟨[(1, .ptr f.cells), (3, .sl 3 (mkB f.Blocks k ++ ((f.Blocks.getD k default).Params ++ mkI (f.Blocks.getD k default) j) ++ mkO ((f.Blocks.getD k default).Instrs.getD j default) i).length), (4, .i64 k), (5, .ptr (f.Blocks.getD k default).cells), (7, .i64 j), (8, .i64 i)], [(3, rowI (mkB f.Blocks k ++ ((f.Blocks.getD k default).Params ++ mkI (f.Blocks.getD k default) j) ++ mkO ((f.Blocks.getD k default).Instrs.getD j default) i))]⟩) (fun i => i ≤ ((f.Blocks.getD k default).Instrs.getD j default).Operands.length) (fun i => ((f.Blocks.getD k default).Instrs.getD j default).Operands.length - i) 0 (Nat.zero_le _) ?_ ?_)
        · rw [show mkB f.Blocks k ++ ((f.Blocks.getD k default).Params ++ mkI (f.Blocks.getD k default) j) ++ mkO ((f.Blocks.getD k default).Instrs.getD j default) 0 = mkB f.Blocks k ++ ((f.Blocks.getD k default).Params ++ mkI (f.Blocks.getD k default) j) by simp [mkO]]
          refine And.intro ?_ ?_
          · repeat' (first | exact rfl | exact trivial | refine And.intro ?_ ?_)
          · exact And.intro ⟨_, _, rfl, rfl, fun i hi => rfl⟩ (And.intro trivial trivial)
        intro i hi
        refine AWp.seq (AWp.seq (AWp.region ?_))
        refine And.intro (fun _ => And.intro (Int.natCast_nonneg _) (Int.ofNat_lt.2 hj')) ?_
        intro _
        refine AWp.cond (And.intro (fun h => ?_) (fun h => ?_))
        · refine AWp.skip ?_
          have hi' : i < ((f.Blocks.getD k default).Instrs.getD j default).Operands.length := Int.ofNat_lt.1 (of_decide_eq_true h)
          have hO := mkO_len ((f.Blocks.getD k default).Instrs.getD j default) i
          have hL : (mkB f.Blocks k ++ ((f.Blocks.getD k default).Params ++ mkI (f.Blocks.getD k default) j) ++ mkO ((f.Blocks.getD k default).Instrs.getD j default) i).length ≤ 10000 := by rw [List.length_append, List.length_append, List.length_append]; omega
          refine AWp.seq (AWp.block (AWp.seq (AWp.region ?_)))
          refine And.intro (fun _ => And.intro (Int.natCast_nonneg _) (Int.ofNat_lt.2 hj')) ?_
          refine And.intro (fun _ => And.intro (Int.natCast_nonneg _) (Int.ofNat_lt.2 hi')) ?_
          intro _
          refine AWp.cond (And.intro (fun hc => ?_) (fun hc => ?_))
          · have hS : mkO ((f.Blocks.getD k default).Instrs.getD j default) (i + 1) = mkO ((f.Blocks.getD k default).Instrs.getD j default) i ++ [(((f.Blocks.getD k default).Instrs.getD j default).Operands.getD i default).Value] := mkO_hit hi' hc
            refine AWp.region ?_
            refine And.intro (fun _ => And.intro (Int.natCast_nonneg _) (Int.ofNat_lt.2 hj')) ?_
            refine And.intro (fun _ => And.intro (Int.natCast_nonneg _) (Int.ofNat_lt.2 hi')) ?_
            refine And.intro (Nat.le_refl _) (And.intro (fun a ha => ?_) (And.intro rfl (And.intro (by omega) ?_)))
            · have e : a = 0 := by omega
              subst e; rfl
            intro _
            refine AWp.rename 77 3 rfl rfl ?_
            refine AWp.region ?_
            intro _
            refine round_end (i + 1) hi' ?_ (by omega)
            rw [hS, ← List.append_assoc]
            refine And.intro ?_ ?_
            · repeat' (first | exact rfl | exact trivial | exact congrArg (fun z => some (AV.i64 z)) (wrap_succ hi' hol) | refine And.intro ?_ ?_)
              exact congrArg (fun n => some (AV.sl 3 n)) (len_snoc _ _)
            · exact And.intro ⟨_, _, rfl, len_snoc _ _, fun i hi => snoc_row hi⟩ (And.intro trivial trivial)
          · have hS : mkO ((f.Blocks.getD k default).Instrs.getD j default) (i + 1) = mkO ((f.Blocks.getD k default).Instrs.getD j default) i := mkO_miss hi' hc
            refine AWp.skip ?_
            refine AWp.region ?_
            intro _
            refine round_end (i + 1) hi' ?_ (by omega)
            rw [hS]
            refine And.intro ?_ ?_
            · repeat' (first | exact rfl | exact trivial | exact congrArg (fun z => some (AV.i64 z)) (wrap_succ hi' hol) | refine And.intro ?_ ?_)
            · exact And.intro ⟨_, _, rfl, rfl, fun i hi => rfl⟩ (And.intro trivial trivial)
        have hi3 : ¬ (i : Int) < ((f.Blocks.getD k default).Instrs.getD j default).Operands.length := of_decide_eq_false h
        obtain rfl : i = ((f.Blocks.getD k default).Instrs.getD j default).Operands.length := by omega
        refine AWp.exit ?_
        refine AWp.region ?_
        intro _
        refine round_end (j + 1) hj' ?_ (by omega)
        rw [mkI_succ hj', ← List.append_assoc, ← List.append_assoc, List.append_assoc (mkB f.Blocks k)]
        refine And.intro ?_ ?_
        · repeat' (first | exact rfl | exact trivial | exact congrArg (fun z => some (AV.i64 z)) (wrap_succ hj' hil) | refine And.intro ?_ ?_)
        · exact And.intro ⟨_, _, rfl, rfl, fun i hi => rfl⟩ (And.intro trivial trivial)
      have hj3 : ¬ (j : Int) < (f.Blocks.getD k default).Instrs.length := of_decide_eq_false h
      obtain rfl : j = (f.Blocks.getD k default).Instrs.length := by omega
      refine AWp.exit ?_
      refine AWp.region ?_
      intro _
      refine round_end (k + 1) hk' ?_ (by omega)
      rw [mkB_succ hk']
      refine And.intro ?_ ?_
      · repeat' (first | exact rfl | exact trivial | exact congrArg (fun z => some (AV.i64 z)) (wrap_succ hk' hlen) | refine And.intro ?_ ?_)
      · exact And.intro ⟨_, _, rfl, rfl, fun i hi => rfl⟩ (And.intro trivial trivial)
  have hk3 : ¬ (k : Int) < f.Blocks.length := of_decide_eq_false h
  obtain rfl : k = f.Blocks.length := by omega
  refine AWp.exit ?_
  refine AWp.seq (AWp.region ?_)
  intro _
  refine AWp.freeze 3 (fun i => intC ((makL f).getD i default)) rfl (fun i hi => rfl) ?_
  refine AWp.ret ⟨Or.inl rfl, rfl, ?_⟩
  intro _
  rfl
end Go.Proofs.Ytdilfbdfefppbaa
