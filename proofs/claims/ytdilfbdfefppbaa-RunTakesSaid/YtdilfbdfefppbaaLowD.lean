/- Contracts of joinedInts, run.Made, ostlerref.madeBy, MadeOf. Condition: the rows together are no longer than 2^44 numbers. -/
import Derived.Test.YtdilfbdfefppbaaLowC
set_option linter.unusedVariables false
set_option linter.unusedSimpArgs false
namespace Go.Proofs.Ytdilfbdfefppbaa
open Go Go.Abs Go.RowKit

theorem row_push {xs ys : List Int} {k i : Nat} {z : Int} (hi : i < k + 1) (h1 : ∀ i, i < k → intC (ys.getD i default) = intC (xs.getD i default)) (hz : ys.getD k default = z) :
    intC (ys.getD i default) = if i < k then intC (xs.getD i default) else ([[AV.val (Value.int IntKind.i64 z)]] : List (List AV)).getD (i - k) [] := by
  split
  · exact h1 i (by assumption)
  · obtain rfl : i = k := by omega
    rw [hz, Nat.sub_self]; rfl

theorem c_joinedInts (a b : List Int) (hl : (a.length + b.length) * 8 ≤ 140737488355328) : ACallIs B.P 45 [ints a, ints b] (ints (a ++ b)) := by
  refine ACallIs.enter B _ _ Try.func45 rfl rfl Try.ntmps45 Try.results45 rfl fun hreal => ?_
  have ha : a.length ≤ maxLen := hreal.1.len
  have hb : b.length ≤ maxLen := hreal.2.1.len
  refine AWp.seq (AWp.region ?_)
  intro _
  refine AWp.seq (AWp.region ?_)
  intro _
  refine AWp.seq (AWp.seq (AWp.region ?_))
  intro _
  refine AWp.adopt 5 5 3 1 rfl rfl rfl ?_
  refine AWp.block (AWp.loop (fun k : Nat => ⟨[(0, ints a), (1, ints b), (5, .sl 5 k), (6, .i64 k)], [(5, .row 3 1 k (fun i => intC (a.getD i default)))]⟩) (fun k => k ≤ a.length) (fun k => a.length - k) 0 (by simp) ?_ ?_)
  · refine And.intro ?_ ?_
    · repeat' (first | exact rfl | exact trivial | refine And.intro ?_ ?_)
    · refine And.intro ⟨_, _, rfl, rfl, fun i hi => absurd hi (by omega)⟩ ?_
      repeat' (first | exact rfl | exact trivial | refine And.intro ?_ ?_)
  intro k hk
  refine AWp.seq (AWp.seq (AWp.region ?_))
  intro _
  refine AWp.cond (And.intro (fun h => ?_) (fun h => ?_))
  · refine AWp.skip ?_
    have hk' : k < a.length := by have := of_decide_eq_true h; omega
    refine AWp.seq (AWp.block (AWp.region ?_))
    refine And.intro (fun _ => And.intro (Int.natCast_nonneg _) (Int.ofNat_lt.2 hk')) ?_
    refine And.intro (by first | exact rfl | exact Nat.le_refl _ | exact (fun i hi => rfl) | (intro i hi; have e : i = 0 := (by omega); subst e; exact rfl) | omega) (And.intro (by first | exact rfl | exact Nat.le_refl _ | exact (fun i hi => rfl) | (intro i hi; have e : i = 0 := (by omega); subst e; exact rfl) | omega) (And.intro (by first | exact rfl | exact Nat.le_refl _ | exact (fun i hi => rfl) | (intro i hi; have e : i = 0 := (by omega); subst e; exact rfl) | omega) (And.intro (by first | exact rfl | exact Nat.le_refl _ | exact (fun i hi => rfl) | (intro i hi; have e : i = 0 := (by omega); subst e; exact rfl) | omega) ?_)))
    intro _
    refine AWp.rename 20 5 rfl rfl ?_
    refine AWp.region ?_
    intro _
    refine round_end (k + 1) (by omega) ?_ (by omega)
    refine And.intro ?_ ?_
    · repeat' (first | exact rfl | exact trivial | refine And.intro ?_ ?_)
      exact congrArg (fun z => some (AV.i64 z)) (wrap_succ hk' ha)
    · exact And.intro ⟨_, _, rfl, rfl, fun i hi => row_push hi (fun _ _ => rfl) rfl⟩ (And.intro trivial trivial)
  have hk2 : ¬ (k : Int) < a.length := of_decide_eq_false h
  obtain rfl : k = a.length := by omega
  refine AWp.exit ?_
  refine AWp.seq (AWp.seq (AWp.region ?_))
  intro _
  refine AWp.block (AWp.loop (fun k : Nat => ⟨[(1, ints b), (5, .sl 5 (a.length + k)), (7, .i64 k)], [(5, .row 3 1 (a.length + k) (fun i => intC ((a ++ b).getD i default)))]⟩) (fun k => k ≤ b.length) (fun k => b.length - k) 0 (by simp) ?_ ?_)
  · refine And.intro ?_ ?_
    · repeat' (first | exact rfl | exact trivial | refine And.intro ?_ ?_)
    · refine And.intro ⟨_, _, rfl, rfl, fun i hi => ?_⟩ (And.intro trivial trivial)
      have hi' : i < a.length := hi
      show intC _ = intC (a.getD i default)
      rw [List.getD_eq_getElem?_getD, List.getElem?_append_left hi', ← List.getD_eq_getElem?_getD]
  intro k hk
  refine AWp.seq (AWp.seq (AWp.region ?_))
  intro _
  refine AWp.cond (And.intro (fun h => ?_) (fun h => ?_))
  · refine AWp.skip ?_
    have hk' : k < b.length := by have := of_decide_eq_true h; omega
    refine AWp.seq (AWp.block (AWp.region ?_))
    refine And.intro (fun _ => And.intro (Int.natCast_nonneg _) (Int.ofNat_lt.2 hk')) ?_
    refine And.intro (by first | exact rfl | exact Nat.le_refl _ | exact (fun i hi => rfl) | (intro i hi; have e : i = 0 := (by omega); subst e; exact rfl) | omega) (And.intro (by first | exact rfl | exact Nat.le_refl _ | exact (fun i hi => rfl) | (intro i hi; have e : i = 0 := (by omega); subst e; exact rfl) | omega) (And.intro (by first | exact rfl | exact Nat.le_refl _ | exact (fun i hi => rfl) | (intro i hi; have e : i = 0 := (by omega); subst e; exact rfl) | omega) (And.intro (by first | exact rfl | exact Nat.le_refl _ | exact (fun i hi => rfl) | (intro i hi; have e : i = 0 := (by omega); subst e; exact rfl) | omega) ?_)))
    intro _
    refine AWp.rename 33 5 rfl rfl ?_
    refine AWp.region ?_
    intro _
    refine round_end (k + 1) (by omega) ?_ (by omega)
    refine And.intro ?_ ?_
    · repeat' (first | exact rfl | exact trivial | refine And.intro ?_ ?_)
      exact congrArg (fun z => some (AV.i64 z)) (wrap_succ hk' hb)
    · refine And.intro ⟨_, _, rfl, rfl, fun i hi => row_push (xs := a ++ b) hi (fun _ _ => rfl) ?_⟩ (And.intro trivial trivial)
      show (a ++ b).getD (a.length + k) default = b.getD k default
      rw [List.getD_eq_getElem?_getD, List.getElem?_append_right (by omega), Nat.add_sub_cancel_left, ← List.getD_eq_getElem?_getD]
  have hk3 : ¬ (k : Int) < b.length := of_decide_eq_false h
  obtain rfl : k = b.length := by omega
  refine AWp.exit ?_
  refine AWp.seq (AWp.region ?_)
  intro _
  refine AWp.freeze 5 (fun i => intC ((a ++ b).getD i default)) rfl (fun i hi => rfl) ?_
  refine AWp.ret ⟨Or.inl rfl, rfl, ?_⟩
  intro _
  show AV.ro 1 (a.length + b.length) _ = AV.ro 1 (a ++ b).length _
  rw [List.length_append]

theorem c_Mix_row {n : Nat} {row : Nat → List AV} (l : List Int) (hn : n = l.length) (hr : row = fun i => intC (l.getD i default)) : ACallIs B.P 18 [.ro 1 n row] (.i64 (mixF l)) := by
  subst hn hr
  exact c_Mix l
theorem row_three (a b c : Int) (l : List Int) : (fun i => if i < 3 then ([[AV.val (Value.int IntKind.i64 a)], [AV.val (Value.int IntKind.i64 b)], [AV.val (Value.int IntKind.i64 c)]] : List (List AV)).getD i [] else intC (l.getD (i - 3) default)) = fun i => intC ((a :: b :: c :: l).getD i default) := by
  funext i
  match i with
  | 0 => rfl
  | 1 => rfl
  | 2 => rfl
  | i + 3 => rfl

theorem c_Made (seed place : Int) (x : Ins) (l : List Int) (hl : (3 + l.length) * 8 ≤ 140737488355328) : ACallIs B.P 22 [.i64 seed, x.av, .i64 place, ints l] (.i64 (mixF (seed :: x.Op :: place :: l))) := by
  refine ACallIs.enter B _ _ Try.func22 rfl rfl Try.ntmps22 Try.results22 rfl fun hreal => ?_
  refine AWp.seq (AWp.region ?_)
  intro _
  refine AWp.seq (AWp.region ?_)
  refine And.intro (by first | exact rfl | exact Nat.le_refl _ | exact (fun i hi => rfl) | (intro i hi; have e : i = 0 := (by omega); subst e; exact rfl) | omega) (And.intro (by first | exact rfl | exact Nat.le_refl _ | exact (fun i hi => rfl) | (intro i hi; have e : i = 0 := (by omega); subst e; exact rfl) | omega) (And.intro (by first | exact rfl | exact Nat.le_refl _ | exact (fun i hi => rfl) | (intro i hi; have e : i = 0 := (by omega); subst e; exact rfl) | omega) ?_))
  refine CallX.pure (c_Mix_row (seed :: x.Op :: place :: l) (by simp; omega) (row_three seed x.Op place l)) rfl rfl rfl ?_
  intro _
  refine AWp.ret ⟨Or.inl rfl, rfl, ?_⟩
  intro _
  rfl

theorem c_Mixed_row {n : Nat} {row : Nat → List AV} (l : List Int) (hn : n = l.length) (hr : row = fun i => intC (l.getD i default)) : ACallIs B.P 19 [.ro 1 n row] (.i64 (mixF l)) := by
  subst hn hr
  exact c_Mixed l
theorem c_madeBy (seed place : Int) (x : Ins) (l : List Int) (hl : (3 + l.length) * 8 ≤ 140737488355328) : ACallIs B.P 40 [.i64 seed, x.av, .i64 place, ints l] (.i64 (mixF (seed :: x.Op :: place :: l))) := by
  refine ACallIs.enter B _ _ Try.func40 rfl rfl Try.ntmps40 Try.results40 rfl fun hreal => ?_
  refine AWp.seq (AWp.region ?_)
  intro _
  refine AWp.seq (AWp.regionFrz 5 13 (fun i => intC ([seed, x.Op, place].getD i default)) ?_)
  refine ⟨_, _, _, _, rfl, fun i hi => ?_, ?_⟩
  · match i, hi with
    | 0, _ => rfl
    | 1, _ => rfl
    | 2, _ => rfl
    | i + 3, hi => exact absurd hi (by omega)
  refine CallX.pure (c_joinedInts [seed, x.Op, place] l (by simp; omega)) rfl rfl rfl ?_
  refine CallX.pure (c_Mixed _) rfl rfl rfl ?_
  intro _
  refine AWp.ret ⟨Or.inl rfl, rfl, ?_⟩
  intro _
  rfl

theorem c_MadeOf (seed place : Int) (x : Ins) (l : List Int) (hl : (3 + l.length) * 8 ≤ 140737488355328) : ACallIs B.P 23 [.i64 seed, x.av, .i64 place, ints l] (.i64 (mixF (seed :: x.Op :: place :: l))) := by
  refine ACallIs.enter B _ _ Try.func23 rfl rfl Try.ntmps23 Try.results23 rfl fun hreal => ?_
  repeat' (first
    | refine AWp.seq ?_ | refine AWp.block ?_ | refine AWp.skip ?_ | refine AWp.exit ?_
    | refine AWp.region ?_ | refine AWp.draw mixed (by kernel_rfl) ?_
    | refine AWp.cond (And.intro (fun h => ?_) (fun h => ?_))
    | refine AWp.ret ⟨Or.inl rfl, rfl, ?_⟩
    | refine CallX.pure (c_madeBy seed place x l hl) rfl rfl rfl ?_ | refine CallK.intro (fun _ => c_madeBy seed place x l hl) ?_
    | refine And.intro ?_ ?_ | intro _)
  all_goals first | assumption | (exfalso; simp_all; done) | (simp_all [tupOf]; done) | skip

theorem c_l_RunMakes (seed place : Int) (x : Ins) (l : List Int) (hl : (3 + l.length) * 8 ≤ 140737488355328) : ACallIs B.P 7 [.i64 seed, x.av, .i64 place, ints l] (.bool true) := by
  have hl' : l.length * 8 ≤ 140737488355328 := by omega
  refine ACallIs.enter B _ _ Try.func7 rfl rfl Try.ntmps7 Try.results7 rfl fun hreal => ?_
  refine AWp.seq (AWp.region ?_)
  intro _
  refine AWp.seq (AWp.mono (Q := fun e s' => e = .normal ∧ Sub ⟨[(0, .i64 seed), (2, .i64 place), (3, ints l), (5, .obj 5 0), (9, .i64 (mixF (seed :: x.Op :: place :: l)))], [(5, .cells x.cells)]⟩ s') (AWp.any (.alt 0 (.alt 1 (.alt 2 (.alt 3 (.alt 4 (.alt 5 (.alt 6 .fin .no) .no) .no) .no) (.alt 3 (.alt 2 (.alt 4 (.alt 5 (.alt 6 .fin .no) .no) .no) (.alt 4 (.alt 2 (.alt 5 (.alt 6 .fin .no) .no) .no) .no)) .no)) (.alt 2 (.alt 1 (.alt 3 (.alt 4 (.alt 5 (.alt 6 .fin .no) .no) .no) .no) (.alt 3 (.alt 1 (.alt 4 (.alt 5 (.alt 6 .fin .no) .no) .no) (.alt 4 (.alt 1 (.alt 5 (.alt 6 .fin .no) .no) .no) .no)) .no)) (.alt 3 (.alt 1 (.alt 2 (.alt 4 (.alt 5 (.alt 6 .fin .no) .no) .no) (.alt 4 (.alt 2 (.alt 5 (.alt 6 .fin .no) .no) .no) .no)) (.alt 2 (.alt 1 (.alt 4 (.alt 5 (.alt 6 .fin .no) .no) .no) (.alt 4 (.alt 1 (.alt 5 (.alt 6 .fin .no) .no) .no) .no)) (.alt 4 (.alt 1 (.alt 2 (.alt 5 (.alt 6 .fin .no) .no) .no) (.alt 2 (.alt 1 (.alt 5 (.alt 6 .fin .no) .no) .no) .no)) .no))) .no))) (.alt 1 (.alt 0 (.alt 2 (.alt 3 (.alt 4 (.alt 5 (.alt 6 .fin .no) .no) .no) .no) (.alt 3 (.alt 2 (.alt 4 (.alt 5 (.alt 6 .fin .no) .no) .no) (.alt 4 (.alt 2 (.alt 5 (.alt 6 .fin .no) .no) .no) .no)) .no)) (.alt 2 (.alt 0 (.alt 3 (.alt 4 (.alt 5 (.alt 6 .fin .no) .no) .no) .no) (.alt 3 (.alt 0 (.alt 4 (.alt 5 (.alt 6 .fin .no) .no) .no) (.alt 4 (.alt 0 (.alt 5 (.alt 6 .fin .no) .no) .no) .no)) .no)) (.alt 3 (.alt 0 (.alt 2 (.alt 4 (.alt 5 (.alt 6 .fin .no) .no) .no) (.alt 4 (.alt 2 (.alt 5 (.alt 6 .fin .no) .no) .no) .no)) (.alt 2 (.alt 0 (.alt 4 (.alt 5 (.alt 6 .fin .no) .no) .no) (.alt 4 (.alt 0 (.alt 5 (.alt 6 .fin .no) .no) .no) .no)) (.alt 4 (.alt 0 (.alt 2 (.alt 5 (.alt 6 .fin .no) .no) .no) (.alt 2 (.alt 0 (.alt 5 (.alt 6 .fin .no) .no) .no) .no)) .no))) .no))) (.alt 2 (.alt 0 (.alt 1 (.alt 3 (.alt 4 (.alt 5 (.alt 6 .fin .no) .no) .no) .no) (.alt 3 (.alt 1 (.alt 4 (.alt 5 (.alt 6 .fin .no) .no) .no) (.alt 4 (.alt 1 (.alt 5 (.alt 6 .fin .no) .no) .no) .no)) .no)) (.alt 1 (.alt 0 (.alt 3 (.alt 4 (.alt 5 (.alt 6 .fin .no) .no) .no) .no) (.alt 3 (.alt 0 (.alt 4 (.alt 5 (.alt 6 .fin .no) .no) .no) (.alt 4 (.alt 0 (.alt 5 (.alt 6 .fin .no) .no) .no) .no)) .no)) (.alt 3 (.alt 0 (.alt 1 (.alt 4 (.alt 5 (.alt 6 .fin .no) .no) .no) (.alt 4 (.alt 1 (.alt 5 (.alt 6 .fin .no) .no) .no) .no)) (.alt 1 (.alt 0 (.alt 4 (.alt 5 (.alt 6 .fin .no) .no) .no) (.alt 4 (.alt 0 (.alt 5 (.alt 6 .fin .no) .no) .no) .no)) (.alt 4 (.alt 0 (.alt 1 (.alt 5 (.alt 6 .fin .no) .no) .no) (.alt 1 (.alt 0 (.alt 5 (.alt 6 .fin .no) .no) .no) .no)) .no))) .no))) (.alt 3 (.alt 0 (.alt 1 (.alt 2 (.alt 4 (.alt 5 (.alt 6 .fin .no) .no) .no) (.alt 4 (.alt 2 (.alt 5 (.alt 6 .fin .no) .no) .no) .no)) (.alt 2 (.alt 1 (.alt 4 (.alt 5 (.alt 6 .fin .no) .no) .no) (.alt 4 (.alt 1 (.alt 5 (.alt 6 .fin .no) .no) .no) .no)) (.alt 4 (.alt 1 (.alt 2 (.alt 5 (.alt 6 .fin .no) .no) .no) (.alt 2 (.alt 1 (.alt 5 (.alt 6 .fin .no) .no) .no) .no)) .no))) (.alt 1 (.alt 0 (.alt 2 (.alt 4 (.alt 5 (.alt 6 .fin .no) .no) .no) (.alt 4 (.alt 2 (.alt 5 (.alt 6 .fin .no) .no) .no) .no)) (.alt 2 (.alt 0 (.alt 4 (.alt 5 (.alt 6 .fin .no) .no) .no) (.alt 4 (.alt 0 (.alt 5 (.alt 6 .fin .no) .no) .no) .no)) (.alt 4 (.alt 0 (.alt 2 (.alt 5 (.alt 6 .fin .no) .no) .no) (.alt 2 (.alt 0 (.alt 5 (.alt 6 .fin .no) .no) .no) .no)) .no))) (.alt 2 (.alt 0 (.alt 1 (.alt 4 (.alt 5 (.alt 6 .fin .no) .no) .no) (.alt 4 (.alt 1 (.alt 5 (.alt 6 .fin .no) .no) .no) .no)) (.alt 1 (.alt 0 (.alt 4 (.alt 5 (.alt 6 .fin .no) .no) .no) (.alt 4 (.alt 0 (.alt 5 (.alt 6 .fin .no) .no) .no) .no)) (.alt 4 (.alt 0 (.alt 1 (.alt 5 (.alt 6 .fin .no) .no) .no) (.alt 1 (.alt 0 (.alt 5 (.alt 6 .fin .no) .no) .no) .no)) .no))) (.alt 4 (.alt 0 (.alt 1 (.alt 2 (.alt 5 (.alt 6 .fin .no) .no) .no) (.alt 2 (.alt 1 (.alt 5 (.alt 6 .fin .no) .no) .no) .no)) (.alt 1 (.alt 0 (.alt 2 (.alt 5 (.alt 6 .fin .no) .no) .no) (.alt 2 (.alt 0 (.alt 5 (.alt 6 .fin .no) .no) .no) .no)) (.alt 2 (.alt 0 (.alt 1 (.alt 5 (.alt 6 .fin .no) .no) .no) (.alt 1 (.alt 0 (.alt 5 (.alt 6 .fin .no) .no) .no) .no)) .no))) .no)))) .no)))) mixed (by kernel_rfl) ?_) ?_)
  · repeat' (first
      | exact trivial
      | refine And.intro ?_ ?_
      | refine CallX.pure (c_ints l hl') rfl rfl rfl ?_
      | refine CallX.pure (c_Made seed place x l hl) rfl rfl rfl ?_
      | (intro _; refine And.intro rfl ?_; repeat' (first | exact rfl | exact trivial | refine And.intro ?_ ?_)))
  rintro e s' ⟨rfl, hs⟩
  refine AWp.weaken hs ?_
  repeat' (first
    | refine AWp.seq ?_ | refine AWp.block ?_ | refine AWp.skip ?_ | refine AWp.exit ?_
    | refine AWp.region ?_ | refine AWp.draw mixed (by kernel_rfl) ?_
    | refine AWp.cond (And.intro (fun h => ?_) (fun h => ?_))
    | refine AWp.ret ⟨Or.inl rfl, rfl, ?_⟩
    | refine CallX.pure (c_MadeOf seed place x l hl) rfl rfl rfl ?_ | refine CallK.intro (fun _ => c_MadeOf seed place x l hl) ?_
    | refine And.intro ?_ ?_ | intro _)
  all_goals first | assumption | (exfalso; simp_all; done) | (simp_all [tupOf]; done) | skip
end Go.Proofs.Ytdilfbdfefppbaa
