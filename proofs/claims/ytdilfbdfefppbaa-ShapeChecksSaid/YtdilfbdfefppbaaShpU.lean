/- Contract of shape.once. Condition: the sizes may be. -/
import Derived.Test.YtdilfbdfefppbaaShpT
set_option linter.unusedVariables false
set_option linter.unusedSimpArgs false
namespace Go.Proofs.Ytdilfbdfefppbaa
open Go Go.Abs Go.RowKit

theorem bad_oneI {f : Fun} {P : List Int} {v : Int} (h : (oneI f v (memP P) != 0) = true) : bad f P v ≠ 0 := by rw [oneI_bad] at h; simpa using h
theorem bad_zero {f : Fun} {P : List Int} {v : Int} (h : (oneI f v (memP P) != 0) = false) : bad f P v = 0 := by rw [oneI_bad] at h; simpa using h
set_option maxHeartbeats 1000000 in
theorem c_once (f : Fun) (hz : SizOk f) : ACallIs B.P 50 [f.av] (.i64 (onceF f)) := by
  have hlen : f.Blocks.length ≤ maxLen := by have := hz.blocks; unfold maxLen; omega
  have hvl := hz.values
  refine ACallIs.enter B _ _ Try.func50 rfl rfl Try.ntmps50 Try.results50 rfl fun hreal => ?_
  clear hreal
  refine AWp.seq (AWp.region ?_)
  intro _
  refine AWp.freezeObj 1 rfl rfl ?_
  refine AWp.seq (AWp.region ?_)
  refine And.intro rfl (And.intro (Int.natCast_nonneg _) (And.intro (by simp only [Int.toNat_natCast]; omega) ?_))
  intro _
  refine AWp.seq (AWp.region ?_)
  intro _
  refine AWp.seq (AWp.seq (AWp.region ?_))
  intro _
  refine AWp.block (AWp.loop (fun k : Nat => ⟨[(1, .ptr f.cells), (3, .obj 3 0), (4, .fn 73 [.ptr f.cells, .obj 3 0]), (21, roL 3 Blk.cells f.Blocks), (22, .i64 f.Blocks.length), (23, .i64 k)], [(3, .cells [.sl 18 f.Values.length]), (18, rowB f.Values.length (memP (mkB f.Blocks k)))]⟩) (fun k => k ≤ f.Blocks.length ∧ OkP f (mkB f.Blocks k)) (fun k => f.Blocks.length - k) 0 ⟨Nat.zero_le _, OkP.nil f⟩ ?_ ?_)
  · skip
    refine And.intro ?_ ?_
    · repeat' (first | exact rfl | exact trivial | refine And.intro ?_ ?_)
    · refine And.intro ?_ (And.intro ?_ (And.intro ⟨_, _, rfl, rfl, fun i hi => ?_⟩ (And.intro trivial trivial)))
      · exact rfl
      · repeat' (first | exact rfl | exact trivial | refine And.intro ?_ ?_)
      exact rfl
  intro k hk
  obtain ⟨hk, hP⟩ := hk
  refine AWp.seq (AWp.region ?_)
  intro _
  refine AWp.seq (AWp.cond (And.intro (fun h => ?_) (fun h => ?_)))
  · refine AWp.skip ?_
    have hk' : k < f.Blocks.length := by have := of_decide_eq_true h; omega
    have hp := hz.params k hk'
    have hin := hz.instrs k hk'
    refine AWp.seq (AWp.block (AWp.seq (AWp.region ?_)))
    refine And.intro (fun _ => And.intro (Int.natCast_nonneg _) (Int.ofNat_lt.2 hk')) ?_
    intro _
    refine AWp.freezeObj 6 rfl rfl ?_
    refine AWp.seq (AWp.seq (AWp.region ?_))
    intro _
    refine AWp.block (AWp.loop (fun j : Nat => ⟨[(1, .ptr f.cells), (3, .obj 3 0), (4, .fn 73 [.ptr f.cells, .obj 3 0]), (21, roL 3 Blk.cells f.Blocks), (22, .i64 f.Blocks.length), (23, .i64 k), (6, .ptr (f.Blocks.getD k default).cells), (28, ints (f.Blocks.getD k default).Params), (29, .i64 (f.Blocks.getD k default).Params.length), (30, .i64 j)], [(3, .cells [.sl 18 f.Values.length]), (18, rowB f.Values.length (memP (mkB f.Blocks k ++ (f.Blocks.getD k default).Params.take j)))]⟩) (fun j => j ≤ (f.Blocks.getD k default).Params.length ∧ OkP f (mkB f.Blocks k ++ (f.Blocks.getD k default).Params.take j)) (fun j => (f.Blocks.getD k default).Params.length - j) 0 ⟨Nat.zero_le _, by simpa using hP⟩ ?_ ?_)
    · skip
      rw [show mkB f.Blocks k ++ (f.Blocks.getD k default).Params.take 0 = mkB f.Blocks k by simp]
      refine And.intro ?_ ?_
      · repeat' (first | exact rfl | exact trivial | refine And.intro ?_ ?_)
      · refine And.intro ?_ (And.intro ?_ (And.intro ⟨_, _, rfl, rfl, fun i hi => ?_⟩ (And.intro trivial trivial)))
        · exact rfl
        · repeat' (first | exact rfl | exact trivial | refine And.intro ?_ ?_)
        exact rfl
    intro j hj
    obtain ⟨hj, hPj⟩ := hj
    refine AWp.seq (AWp.region ?_)
    intro _
    refine AWp.seq (AWp.cond (And.intro (fun h => ?_) (fun h => ?_)))
    · refine AWp.skip ?_
      have hj' : j < (f.Blocks.getD k default).Params.length := Int.ofNat_lt.1 (of_decide_eq_true h)
      have hpl : (f.Blocks.getD k default).Params.length ≤ maxLen := by unfold maxLen; omega
      have hS : mkB f.Blocks k ++ (f.Blocks.getD k default).Params.take (j + 1) = (mkB f.Blocks k ++ (f.Blocks.getD k default).Params.take j) ++ [(f.Blocks.getD k default).Params.getD j default] := by rw [take_succ_getD hj', List.append_assoc]
      have hpre := pre_1 (j := j + 1) hk'
      rw [hS] at hpre
      refine AWp.seq (AWp.block (AWp.seq (AWp.region ?_)))
      refine And.intro (fun _ => And.intro (Int.natCast_nonneg _) (Int.ofNat_lt.2 hj')) ?_
      intro _
      refine AWp.seq (AWp.region ?_)
      refine CallX.lend (m_once1 f ((f.Blocks.getD k default).Params.getD j default) (memP (mkB f.Blocks k ++ (f.Blocks.getD k default).Params.take j))) [(1002, 3), (1001, 18)] rfl (And.intro rfl (And.intro rfl trivial)) rfl ?_
      intro _
      refine AWp.seq (AWp.region ?_)
      intro _
      refine AWp.cond (And.intro (fun hc => ?_) (fun hc => ?_))
      · refine AWp.seq (AWp.region ?_)
        intro _
        refine AWp.ret ⟨Or.inl rfl, rfl, ?_⟩
        intro _
        exact tupI (oneI_bad.trans (once_hit hpre hPj (bad_oneI hc)).symm)
      refine AWp.skip ?_
      refine AWp.region ?_
      intro _
      refine round_end (j + 1) ⟨hj', by rw [hS]; exact hPj.snoc (bad_zero hc)⟩ ?_ (by omega)
      rw [hS]
      refine And.intro ?_ ?_
      · repeat' (first | exact rfl | exact trivial | exact congrArg (fun z => some (AV.i64 z)) (wrap_succ hj' hpl) | refine And.intro ?_ ?_)
      · refine And.intro ?_ (And.intro ?_ (And.intro ⟨_, _, rfl, rfl, fun i hi => ?_⟩ (And.intro trivial trivial)))
        · exact rfl
        · repeat' (first | exact rfl | exact trivial | refine And.intro ?_ ?_)
        exact congrArg (fun b => [AV.bool b]) (oneM_snoc (bad_zero hc) i).symm
    have hj3 : ¬ (j : Int) < (f.Blocks.getD k default).Params.length := of_decide_eq_false h
    obtain rfl : j = (f.Blocks.getD k default).Params.length := by omega
    refine AWp.exit ?_
    refine AWp.seq (AWp.region ?_)
    intro _
    have hil : (f.Blocks.getD k default).Instrs.length ≤ maxLen := by unfold maxLen; omega
    refine AWp.block (AWp.loop (fun j : Nat => ⟨[(1, .ptr f.cells), (3, .obj 3 0), (4, .fn 73 [.ptr f.cells, .obj 3 0]), (21, roL 3 Blk.cells f.Blocks), (22, .i64 f.Blocks.length), (23, .i64 k), (6, .ptr (f.Blocks.getD k default).cells), (42, roL 3 Ins.cells (f.Blocks.getD k default).Instrs), (43, .i64 (f.Blocks.getD k default).Instrs.length), (44, .i64 j)], [(3, .cells [.sl 18 f.Values.length]), (18, rowB f.Values.length (memP (mkB f.Blocks k ++ ((f.Blocks.getD k default).Params ++ mkI (f.Blocks.getD k default) j))))]⟩) (fun j => j ≤ (f.Blocks.getD k default).Instrs.length ∧ OkP f (mkB f.Blocks k ++ ((f.Blocks.getD k default).Params ++ mkI (f.Blocks.getD k default) j))) (fun j => (f.Blocks.getD k default).Instrs.length - j) 0 ⟨Nat.zero_le _, by simpa [mkI] using hPj⟩ ?_ ?_)
    · skip
      rw [show mkB f.Blocks k ++ ((f.Blocks.getD k default).Params ++ mkI (f.Blocks.getD k default) 0) = mkB f.Blocks k ++ (f.Blocks.getD k default).Params.take (f.Blocks.getD k default).Params.length by simp [mkI]]
      refine And.intro ?_ ?_
      · repeat' (first | exact rfl | exact trivial | refine And.intro ?_ ?_)
      · refine And.intro ?_ (And.intro ?_ (And.intro ⟨_, _, rfl, rfl, fun i hi => ?_⟩ (And.intro trivial trivial)))
        · exact rfl
        · repeat' (first | exact rfl | exact trivial | refine And.intro ?_ ?_)
        exact rfl
    clear h hj hj3 hPj
    intro j hj
    obtain ⟨hj, hPj⟩ := hj
    refine AWp.seq (AWp.region ?_)
    intro _
    refine AWp.seq (AWp.cond (And.intro (fun h => ?_) (fun h => ?_)))
    · refine AWp.skip ?_
      have hj' : j < (f.Blocks.getD k default).Instrs.length := Int.ofNat_lt.1 (of_decide_eq_true h)
      have hop := hz.ops k j hk' hj'
      have hol : ((f.Blocks.getD k default).Instrs.getD j default).Operands.length ≤ maxLen := by unfold maxLen; omega
      refine AWp.seq (AWp.block (AWp.seq (AWp.region ?_)))
      refine And.intro (fun _ => And.intro (Int.natCast_nonneg _) (Int.ofNat_lt.2 hj')) ?_
      intro _
      refine AWp.freezeObj 11 rfl rfl ?_
      refine AWp.seq (AWp.region ?_)
      intro _
      refine AWp.block (AWp.loop (fun i : Nat => ⟨[(1, .ptr f.cells), (3, .obj 3 0), (4, .fn 73 [.ptr f.cells, .obj 3 0]), (21, roL 3 Blk.cells f.Blocks), (22, .i64 f.Blocks.length), (23, .i64 k), (6, .ptr (f.Blocks.getD k default).cells), (42, roL 3 Ins.cells (f.Blocks.getD k default).Instrs), (43, .i64 (f.Blocks.getD k default).Instrs.length), (44, .i64 j), (49, roL 5 Opd.cells ((f.Blocks.getD k default).Instrs.getD j default).Operands), (50, .i64 ((f.Blocks.getD k default).Instrs.getD j default).Operands.length), (51, .i64 i)], [(3, .cells [.sl 18 f.Values.length]), (18, rowB f.Values.length (memP (mkB f.Blocks k ++ ((f.Blocks.getD k default).Params ++ mkI (f.Blocks.getD k default) j) ++ mkO ((f.Blocks.getD k default).Instrs.getD j default) i)))]⟩) (fun i => i ≤ ((f.Blocks.getD k default).Instrs.getD j default).Operands.length ∧ OkP f (mkB f.Blocks k ++ ((f.Blocks.getD k default).Params ++ mkI (f.Blocks.getD k default) j) ++ mkO ((f.Blocks.getD k default).Instrs.getD j default) i)) (fun i => ((f.Blocks.getD k default).Instrs.getD j default).Operands.length - i) 0 ⟨Nat.zero_le _, by simpa [mkO] using hPj⟩ ?_ ?_)
      · skip
        rw [show mkB f.Blocks k ++ ((f.Blocks.getD k default).Params ++ mkI (f.Blocks.getD k default) j) ++ mkO ((f.Blocks.getD k default).Instrs.getD j default) 0 = mkB f.Blocks k ++ ((f.Blocks.getD k default).Params ++ mkI (f.Blocks.getD k default) j) by simp [mkO]]
        refine And.intro ?_ ?_
        · repeat' (first | exact rfl | exact trivial | refine And.intro ?_ ?_)
        · refine And.intro ?_ (And.intro ?_ (And.intro ⟨_, _, rfl, rfl, fun i hi => ?_⟩ (And.intro trivial trivial)))
          · exact rfl
          · repeat' (first | exact rfl | exact trivial | refine And.intro ?_ ?_)
          exact rfl
      intro i hi
      obtain ⟨hi, hPi⟩ := hi
      refine AWp.seq (AWp.region ?_)
      intro _
      refine AWp.seq (AWp.cond (And.intro (fun h => ?_) (fun h => ?_)))
      · refine AWp.skip ?_
        have hi' : i < ((f.Blocks.getD k default).Instrs.getD j default).Operands.length := Int.ofNat_lt.1 (of_decide_eq_true h)
        refine AWp.seq (AWp.block (AWp.seq (AWp.region ?_)))
        refine And.intro (fun _ => And.intro (Int.natCast_nonneg _) (Int.ofNat_lt.2 hi')) ?_
        intro _
        refine AWp.freezeObj 13 rfl rfl ?_
        refine AWp.seq (AWp.seq (AWp.region ?_))
        intro _
        refine (AWp.cond (And.intro (fun hd => ?_) (fun hd => ?_)))
        · refine AWp.exit ?_
          refine AWp.region ?_
          intro _
          have hS : mkO ((f.Blocks.getD k default).Instrs.getD j default) (i + 1) = mkO ((f.Blocks.getD k default).Instrs.getD j default) i := mkO_miss hi' (by simpa using hd)
          refine round_end (i + 1) ⟨hi', by rw [hS]; exact hPi⟩ ?_ (by omega)
          rw [hS]
          refine And.intro ?_ ?_
          · repeat' (first | exact rfl | exact trivial | exact congrArg (fun z => some (AV.i64 z)) (wrap_succ hi' hol) | refine And.intro ?_ ?_)
          · refine And.intro ?_ (And.intro ?_ (And.intro ⟨_, _, rfl, rfl, fun i hi => ?_⟩ (And.intro trivial trivial)))
            · exact rfl
            · repeat' (first | exact rfl | exact trivial | refine And.intro ?_ ?_)
            exact rfl
        refine AWp.skip ?_
        have hS : mkB f.Blocks k ++ ((f.Blocks.getD k default).Params ++ mkI (f.Blocks.getD k default) j) ++ mkO ((f.Blocks.getD k default).Instrs.getD j default) (i + 1) = (mkB f.Blocks k ++ ((f.Blocks.getD k default).Params ++ mkI (f.Blocks.getD k default) j) ++ mkO ((f.Blocks.getD k default).Instrs.getD j default) i) ++ [(((f.Blocks.getD k default).Instrs.getD j default).Operands.getD i default).Value] := by rw [mkO_hit hi' (by simpa using hd)]; simp only [List.append_assoc]
        have hpre := pre_3 (i := i + 1) hk' hj' hi'
        rw [hS] at hpre
        refine AWp.seq (AWp.region ?_)
        refine CallX.lend (m_once1 f (((f.Blocks.getD k default).Instrs.getD j default).Operands.getD i default).Value (memP (mkB f.Blocks k ++ ((f.Blocks.getD k default).Params ++ mkI (f.Blocks.getD k default) j) ++ mkO ((f.Blocks.getD k default).Instrs.getD j default) i))) [(1002, 3), (1001, 18)] rfl (And.intro rfl (And.intro rfl trivial)) rfl ?_
        intro _
        refine AWp.seq (AWp.region ?_)
        intro _
        refine AWp.cond (And.intro (fun hc => ?_) (fun hc => ?_))
        · refine AWp.seq (AWp.region ?_)
          intro _
          refine AWp.ret ⟨Or.inl rfl, rfl, ?_⟩
          intro _
          exact tupI (oneI_bad.trans (once_hit hpre hPi (bad_oneI hc)).symm)
        refine AWp.skip ?_
        refine AWp.region ?_
        intro _
        refine round_end (i + 1) ⟨hi', by rw [hS]; exact hPi.snoc (bad_zero hc)⟩ ?_ (by omega)
        rw [hS]
        refine And.intro ?_ ?_
        · repeat' (first | exact rfl | exact trivial | exact congrArg (fun z => some (AV.i64 z)) (wrap_succ hi' hol) | refine And.intro ?_ ?_)
        · refine And.intro ?_ (And.intro ?_ (And.intro ⟨_, _, rfl, rfl, fun i hi => ?_⟩ (And.intro trivial trivial)))
          · exact rfl
          · repeat' (first | exact rfl | exact trivial | refine And.intro ?_ ?_)
          exact congrArg (fun b => [AV.bool b]) (oneM_snoc (bad_zero hc) _).symm
      have hi3 : ¬ (i : Int) < ((f.Blocks.getD k default).Instrs.getD j default).Operands.length := of_decide_eq_false h
      obtain rfl : i = ((f.Blocks.getD k default).Instrs.getD j default).Operands.length := by omega
      refine AWp.exit ?_
      refine AWp.region ?_
      intro _
      have hS : mkB f.Blocks k ++ ((f.Blocks.getD k default).Params ++ mkI (f.Blocks.getD k default) (j + 1)) = mkB f.Blocks k ++ ((f.Blocks.getD k default).Params ++ mkI (f.Blocks.getD k default) j) ++ mkO ((f.Blocks.getD k default).Instrs.getD j default) ((f.Blocks.getD k default).Instrs.getD j default).Operands.length := by rw [mkI_succ hj']; simp only [List.append_assoc]
      refine round_end (j + 1) ⟨hj', by rw [hS]; exact hPi⟩ ?_ (by omega)
      rw [hS]
      refine And.intro ?_ ?_
      · repeat' (first | exact rfl | exact trivial | exact congrArg (fun z => some (AV.i64 z)) (wrap_succ hj' hil) | refine And.intro ?_ ?_)
      · refine And.intro ?_ (And.intro ?_ (And.intro ⟨_, _, rfl, rfl, fun i hi => ?_⟩ (And.intro trivial trivial)))
        · exact rfl
        · repeat' (first | exact rfl | exact trivial | refine And.intro ?_ ?_)
        exact rfl
    have hj3 : ¬ (j : Int) < (f.Blocks.getD k default).Instrs.length := of_decide_eq_false h
    obtain rfl : j = (f.Blocks.getD k default).Instrs.length := by omega
    refine AWp.exit ?_
    refine AWp.region ?_
    intro _
    refine round_end (k + 1) ⟨hk', by rw [mkB_succ hk']; exact hPj⟩ ?_ (by omega)
    rw [mkB_succ hk']
    refine And.intro ?_ ?_
    · repeat' (first | exact rfl | exact trivial | exact congrArg (fun z => some (AV.i64 z)) (wrap_succ hk' hlen) | refine And.intro ?_ ?_)
    · refine And.intro ?_ (And.intro ?_ (And.intro ⟨_, _, rfl, rfl, fun i hi => ?_⟩ (And.intro trivial trivial)))
      · exact rfl
      · repeat' (first | exact rfl | exact trivial | refine And.intro ?_ ?_)
      exact rfl
  have hk3 : ¬ (k : Int) < f.Blocks.length := of_decide_eq_false h
  obtain rfl : k = f.Blocks.length := by omega
  refine AWp.exit ?_
  have hL : mkB f.Blocks f.Blocks.length = makL f := rfl
  rw [hL] at hP ⊢
  have hA : anyB (isB (memP (makL f)) false) f.Values.length = decide ((makL f).length < f.Values.length) := anyFalse hP
  have hA0 : onceF f = if (makL f).length < f.Values.length then 6 else 0 := by unfold onceF; rw [okP_zero hP, if_neg (fun h => h rfl)]
  have hvm : f.Values.length ≤ maxLen := by unfold maxLen; omega
  have hc := c_ContainsBool (memP (makL f)) f.Values.length false hvm
  rw [hA] at hc
  repeat' (first
    | refine AWp.seq ?_ | refine AWp.block ?_ | refine AWp.skip ?_ | refine AWp.exit ?_
    | refine AWp.region ?_ | refine AWp.draw mixed (by kernel_rfl) ?_
    | refine AWp.cond (And.intro (fun h => ?_) (fun h => ?_))
    | refine AWp.ret ⟨Or.inl rfl, rfl, ?_⟩
    | refine CallX.pure (hc) rfl rfl rfl ?_ | refine CallK.intro (fun _ => hc) ?_
    | exact trivial | refine And.intro ?_ ?_ | intro _)
  all_goals rw [hA0]
  all_goals exact tupI (by grind)
end Go.Proofs.Ytdilfbdfefppbaa
