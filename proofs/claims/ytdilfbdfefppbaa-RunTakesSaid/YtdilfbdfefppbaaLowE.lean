/- Contracts of run.Takes, ostlerref.TakesOf and the law RunTakes. Condition: the row is no longer than 2^44 - 3 numbers. -/
import Derived.Test.YtdilfbdfefppbaaLowD
set_option linter.unusedVariables false
set_option linter.unusedSimpArgs false
namespace Go.Proofs.Ytdilfbdfefppbaa
open Go Go.Abs Go.RowKit

def takesF (seed : Int) (b : Blk) (at_ : Int) (l : List Int) : Int :=
  if at_ < 0 ∨ at_ ≠ (b.Instrs.length : Int) - 1 ∨ (b.Edges.length : Int) = 0 then -1
  else if (b.Edges.length : Int) = 1 then 0 else (mixF (seed :: (b.Instrs.getD at_.toNat default).Op :: -1 :: l)).tmod b.Edges.length

theorem not_of {x : Bool} (h : (true && !x) = true) : (x == false) = true := by
  cases x with
  | false => rfl
  | true => cases h
theorem takes_hc {at_ : Int} {b : Blk} (hw : IntKind.i64.wrap ((b.Instrs.length : Int) - 1) = (b.Instrs.length : Int) - 1)
    (h1 : (bif bif decide (at_ < 0) then true else at_ != IntKind.i64.wrap ((b.Instrs.length : Int) - 1) then true else (b.Edges.length : Int) == 0) = false) : ¬ (at_ < 0 ∨ at_ ≠ (b.Instrs.length : Int) - 1 ∨ (b.Edges.length : Int) = 0) := by
  rw [hw] at h1
  cases e1 : decide (at_ < 0) with
  | true => rw [e1] at h1; cases h1
  | false =>
    rw [e1] at h1
    cases e2 : (at_ != (b.Instrs.length : Int) - 1) with
    | true => rw [e2] at h1; cases h1
    | false =>
      rw [e2] at h1
      rintro (e | e | e)
      · exact of_decide_eq_false e1 e
      · exact e (by simpa using e2)
      · have h3 : ((b.Edges.length : Int) == 0) = false := h1
        rw [e] at h3; cases h3
set_option maxHeartbeats 400000 in
theorem c_Takes (seed at_ : Int) (b : Blk) (l : List Int) (hl : (3 + l.length) * 8 ≤ 140737488355328) : ACallIs B.P 26 [.i64 seed, b.av, .i64 at_, ints l] (.i64 (takesF seed b at_ l)) := by
  refine ACallIs.enter B _ _ Try.func26 rfl rfl Try.ntmps26 Try.results26 rfl fun hreal => ?_
  have hi : b.Instrs.length ≤ maxLen := (hreal.2.1.agg (j := 1) rfl).len
  have hw : IntKind.i64.wrap ((b.Instrs.length : Int) - 1) = (b.Instrs.length : Int) - 1 := by unfold maxLen at hi; exact wrap_in (by omega) (by omega)
  repeat' (first
    | refine AWp.seq ?_ | refine AWp.block ?_ | refine AWp.skip ?_ | refine AWp.exit ?_
    | refine AWp.region ?_
    | refine AWp.cond (And.intro (fun h => ?_) (fun h => ?_))
    | refine AWp.ret ⟨Or.inl rfl, rfl, ?_⟩
    | refine And.intro ?_ ?_ | intro _)
  all_goals first | assumption | exact not_of (by assumption) | skip
  · rw [hw] at h
    refine congrArg AV.i64 (if_pos ?_).symm
    cases e1 : decide (at_ < 0) with
    | true => exact .inl (of_decide_eq_true e1)
    | false =>
      rw [e1] at h
      cases e2 : (at_ != (b.Instrs.length : Int) - 1) with
      | true => exact .inr (.inl (by simpa using e2))
      | false =>
        rw [e2] at h
        exact .inr (.inr (eq_of_beq h))
  · rename_i h1 _ _ _
    have hc := takes_hc hw h1
    exact congrArg AV.i64 ((if_neg hc).trans (if_pos (eq_of_beq h))).symm
  rename_i h1 _
  have hc := takes_hc hw h1
  have hE1 : ¬ (b.Edges.length : Int) = 1 := by simpa using h
  have hE : ¬ (b.Edges.length : Int) = 0 := fun e => hc (.inr (.inr e))
  have hidx : 0 ≤ at_ ∧ at_ < (b.Instrs.length : Int) := by
    have : ¬ at_ < 0 := fun e => hc (.inl e)
    have : at_ = (b.Instrs.length : Int) - 1 := Decidable.byContradiction fun e => hc (.inr (.inl e))
    omega
  have hF : takesF seed b at_ l = (mixF (seed :: (b.Instrs.getD at_.toNat default).Op :: -1 :: l)).tmod b.Edges.length := by unfold takesF; rw [if_neg hc, if_neg hE1]
  refine AWp.quietFirst (.q 0 (.q 1 (.q 2 (.q 3 (.q 4 (.q 5 (.q 6 (.q 8 (.q 11 (.q 12 (.q 13 (.c 7 false (.c 9 false (.c 10 false (.q 14 (.q 15 .fin)) .no) .no) .no)))))))))))) [0, 1, 2, 3, 4, 5, 6, 8, 11, 12, 13, 14, 15] [5] mixed (by kernel_rfl) ?_
  refine And.intro (fun _ => hidx) ?_
  refine And.intro ?_ trivial
  refine And.intro ?_ trivial
  refine And.intro (fun i hi => rfl) (And.intro rfl (And.intro (by omega) ?_))
  refine And.intro ?_ trivial
  refine CallX.pure (c_Mix_row (seed :: (b.Instrs.getD at_.toNat default).Op :: -1 :: l) (by simp; omega) (row_three _ _ _ l)) rfl rfl rfl ?_
  refine And.intro (fun e => hE (by simpa using e)) ?_
  intro _
  refine AWp.ret ⟨Or.inl rfl, rfl, ?_⟩
  intro _
  exact congrArg AV.i64 hF.symm
set_option maxHeartbeats 400000 in
theorem c_edgeTaken (seed at_ : Int) (b : Blk) (l : List Int) (hl : (3 + l.length) * 8 ≤ 140737488355328) : ACallIs B.P 41 [.i64 seed, b.av, .i64 at_, ints l] (.i64 (takesF seed b at_ l)) := by
  refine ACallIs.enter B _ _ Try.func41 rfl rfl Try.ntmps41 Try.results41 rfl fun hreal => ?_
  have hi : b.Instrs.length ≤ maxLen := (hreal.2.1.agg (j := 1) rfl).len
  have hw : IntKind.i64.wrap ((b.Instrs.length : Int) - 1) = (b.Instrs.length : Int) - 1 := by unfold maxLen at hi; exact wrap_in (by omega) (by omega)
  repeat' (first
    | refine AWp.seq ?_ | refine AWp.block ?_ | refine AWp.skip ?_ | refine AWp.exit ?_
    | refine AWp.region ?_
    | refine AWp.cond (And.intro (fun h => ?_) (fun h => ?_))
    | refine AWp.ret ⟨Or.inl rfl, rfl, ?_⟩
    | refine And.intro ?_ ?_ | intro _)
  all_goals first | assumption | exact not_of (by assumption) | skip
  · rw [hw] at h
    refine congrArg AV.i64 (if_pos ?_).symm
    cases e1 : decide (at_ < 0) with
    | true => exact .inl (of_decide_eq_true e1)
    | false =>
      rw [e1] at h
      cases e2 : (at_ != (b.Instrs.length : Int) - 1) with
      | true => exact .inr (.inl (by simpa using e2))
      | false =>
        rw [e2] at h
        exact .inr (.inr (eq_of_beq h))
  · rename_i h1 _ _ _
    have hc := takes_hc hw h1
    exact congrArg AV.i64 ((if_neg hc).trans (if_pos (eq_of_beq h))).symm
  rename_i h1 _
  have hc := takes_hc hw h1
  have hE1 : ¬ (b.Edges.length : Int) = 1 := by simpa using h
  have hE : ¬ (b.Edges.length : Int) = 0 := fun e => hc (.inr (.inr e))
  have hidx : 0 ≤ at_ ∧ at_ < (b.Instrs.length : Int) := by
    have : ¬ at_ < 0 := fun e => hc (.inl e)
    have : at_ = (b.Instrs.length : Int) - 1 := Decidable.byContradiction fun e => hc (.inr (.inl e))
    omega
  have hF : takesF seed b at_ l = (mixF (seed :: (b.Instrs.getD at_.toNat default).Op :: -1 :: l)).tmod b.Edges.length := by unfold takesF; rw [if_neg hc, if_neg hE1]
  refine AWp.quietFirst (.q 0 (.q 1 (.q 2 (.q 3 (.q 4 (.q 5 (.q 6 (.q 8 (.q 11 (.q 12 (.q 13 (.c 7 false (.z 36 (.c 9 false (.c 10 false (.q 14 (.q 15 .fin)) .no) .no)) .no)))))))))))) [0, 1, 2, 3, 4, 5, 6, 8, 11, 12, 13, 14, 15] [5] mixed (by kernel_rfl) ?_
  refine And.intro (fun _ => hidx) ?_
  refine And.intro ?_ trivial
  refine ⟨.row 3 1 3 (fun i => intC ([seed, (b.Instrs.getD at_.toNat default).Op, -1].getD i default)), ⟨_, _, rfl, rfl, fun i hi => ?_⟩, trivial, trivial, ?_⟩
  · match i, hi with
    | 0, _ => rfl
    | 1, _ => rfl
    | 2, _ => rfl
    | i + 3, hi => exact absurd hi (by omega)
  refine And.intro ?_ trivial
  refine CallX.pure (c_joinedInts [seed, (b.Instrs.getD at_.toNat default).Op, -1] l (by simp; omega)) rfl rfl rfl ?_
  refine And.intro ?_ trivial
  refine CallX.pure (c_Mixed (seed :: (b.Instrs.getD at_.toNat default).Op :: -1 :: l)) rfl rfl rfl ?_
  refine And.intro (fun e => hE (by simpa using e)) ?_
  intro _
  refine AWp.ret ⟨Or.inl rfl, rfl, ?_⟩
  intro _
  exact congrArg AV.i64 hF.symm

theorem c_TakesOf (seed at_ : Int) (b : Blk) (l : List Int) (hl : (3 + l.length) * 8 ≤ 140737488355328) : ACallIs B.P 27 [.i64 seed, b.av, .i64 at_, ints l] (.i64 (takesF seed b at_ l)) := by
  refine ACallIs.enter B _ _ Try.func27 rfl rfl Try.ntmps27 Try.results27 rfl fun hreal => ?_
  repeat' (first
    | refine AWp.seq ?_ | refine AWp.block ?_ | refine AWp.skip ?_ | refine AWp.exit ?_
    | refine AWp.region ?_ | refine AWp.draw mixed (by kernel_rfl) ?_
    | refine AWp.cond (And.intro (fun h => ?_) (fun h => ?_))
    | refine AWp.ret ⟨Or.inl rfl, rfl, ?_⟩
    | refine CallX.pure (c_edgeTaken seed at_ b l hl) rfl rfl rfl ?_ | refine CallK.intro (fun _ => c_edgeTaken seed at_ b l hl) ?_
    | refine And.intro ?_ ?_ | intro _)
  all_goals first | assumption | (exfalso; simp_all; done) | (simp_all [tupOf]; done) | skip

theorem c_l_RunTakes (seed at_ : Int) (b : Blk) (l : List Int) (hl : (3 + l.length) * 8 ≤ 140737488355328) : ACallIs B.P 9 [.i64 seed, b.av, .i64 at_, ints l] (.bool true) := by
  have hl' : l.length * 8 ≤ 140737488355328 := by omega
  refine ACallIs.enter B _ _ Try.func9 rfl rfl Try.ntmps9 Try.results9 rfl fun hreal => ?_
  refine AWp.seq (AWp.region ?_)
  intro _
  refine AWp.seq (AWp.quietFirst (.q 0 (.q 1 (.q 2 (.q 3 (.c 4 false (.c 5 true (.q 6 .fin) .no) .no))))) [0, 1, 2, 3, 6] [5] mixed (by kernel_rfl) ?_)
  refine And.intro ?_ trivial
  refine CallX.pure (c_ints l hl') rfl rfl rfl ?_
  refine And.intro ?_ trivial
  refine CallX.pure (c_Takes seed at_ b l hl) rfl rfl rfl ?_
  intro _
  repeat' (first
    | refine AWp.seq ?_ | refine AWp.block ?_ | refine AWp.skip ?_ | refine AWp.exit ?_
    | refine AWp.region ?_ | refine AWp.draw mixed (by kernel_rfl) ?_
    | refine AWp.cond (And.intro (fun h => ?_) (fun h => ?_))
    | refine AWp.ret ⟨Or.inl rfl, rfl, ?_⟩
    | refine CallX.pure (c_TakesOf seed at_ b l hl) rfl rfl rfl ?_ | refine CallK.intro (fun _ => c_TakesOf seed at_ b l hl) ?_
    | refine And.intro ?_ ?_ | intro _)
  all_goals first | assumption | (exfalso; simp_all; done) | (simp_all [tupOf]; done) | skip
end Go.Proofs.Ytdilfbdfefppbaa
