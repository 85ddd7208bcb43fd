/- Contracts of live.Starts, ostlerref.startOf, StartsOf. Condition: the function's blocks weigh no more than what came in may. -/
import Derived.Test.YtdilfbdfefppbaaLowC
set_option linter.unusedVariables false
set_option linter.unusedSimpArgs false
namespace Go.Proofs.Ytdilfbdfefppbaa
open Go Go.Abs Go.RowKit

def stepSt (n : Int) (b : Blk) : Int := IntKind.i64.wrap (IntKind.i64.wrap (n + 2) + IntKind.i64.wrap (2 * (b.Instrs.length : Int)))
def startF (bs : List Blk) (k : Nat) : Int := (bs.take k).foldl stepSt 0
def startsF (bs : List Blk) : List Int := (List.range (bs.length + 1)).map (startF bs)
theorem startF_succ {bs : List Blk} {k : Nat} (h : k < bs.length) : startF bs (k + 1) = stepSt (startF bs k) (bs.getD k default) := by
  unfold startF; rw [take_succ_getD h, List.foldl_append]; rfl
theorem startsF_get {bs : List Blk} {k : Nat} (h : k ≤ bs.length) : (startsF bs).getD k default = startF bs k := by
  unfold startsF; rw [List.getD_eq_getElem?_getD, List.getElem?_map, List.getElem?_range (by omega)]; rfl
theorem startsF_len (bs : List Blk) : (startsF bs).length = bs.length + 1 := by simp [startsF]

theorem c_Starts (f : Fun) (hb : f.Blocks.length * 72 ≤ 140737488351232) : ACallIs B.P 14 [f.av] (ints (startsF f.Blocks)) := by
  refine ACallIs.enter B _ _ Try.func14 rfl rfl Try.ntmps14 Try.results14 rfl fun hreal => ?_
  refine AWp.seq (AWp.region ?_)
  intro _
  refine AWp.seq (AWp.region ?_)
  intro _
  refine AWp.seq (AWp.seq (AWp.region ?_))
  intro _
  refine AWp.rename 6 3 rfl rfl ?_
  refine AWp.block (AWp.loop (fun k : Nat => ⟨[(1, .obj 1 0), (3, .sl 3 (k + 1)), (8, roL 3 Blk.cells f.Blocks), (9, .i64 f.Blocks.length), (10, .i64 k)], [(1, .cells f.cells), (3, .row 3 1 (k + 1) (fun i => intC (startF f.Blocks i)))]⟩) (fun k => k ≤ f.Blocks.length) (fun k => f.Blocks.length - k) 0 (by simp) ?_ ?_)
  · refine And.intro ?_ ?_
    · repeat' (first | exact rfl | exact trivial | refine And.intro ?_ ?_)
    · refine And.intro rfl (And.intro ?_ (And.intro ⟨_, _, rfl, rfl, fun i hi => ?_⟩ (And.intro trivial trivial)))
      · repeat' (first | exact rfl | exact trivial | refine And.intro ?_ ?_)
      · have e : i = 0 := by omega
        subst e; rfl
  intro k hk
  refine AWp.seq (AWp.region ?_)
  intro _
  refine AWp.seq (AWp.cond (And.intro (fun h => ?_) (fun h => ?_)))
  · refine AWp.skip ?_
    have hk' : k < f.Blocks.length := by have := of_decide_eq_true h; omega
    refine AWp.seq (AWp.block (AWp.seq (AWp.region ?_)))
    refine And.intro (fun _ => And.intro (Int.natCast_nonneg _) (Int.ofNat_lt.2 hk')) ?_
    intro _
    refine AWp.quietFirst (.q 0 (.q 1 (.q 2 (.q 3 (.q 4 (.q 5 (.q 6 (.q 7 (.q 8 (.q 9 (.q 10 (.q 11 (.q 12 (.c 13 false (.c 14 true (.q 15 .fin) .no) .no)))))))))))))) [0, 1, 2, 3, 4, 5, 6, 7, 8, 9, 10, 11, 12, 15] [3, 5] mixed (by kernel_rfl) ?_
    have hw : IntKind.i64.wrap (((k + 1 : Nat) : Int) - 1) = k := by rw [wrap_in (by omega) (by omega)]; omega
    refine And.intro (fun _ => ?_) ?_
    · show 0 ≤ IntKind.i64.wrap (((k + 1 : Nat) : Int) - 1) ∧ IntKind.i64.wrap (((k + 1 : Nat) : Int) - 1) < ((k + 1 : Nat) : Int)
      rw [hw]; omega
    refine And.intro (fun _ => ?_) ?_
    · show (IntKind.i64.wrap (((k + 1 : Nat) : Int) - 1)).toNat < k + 1
      rw [hw]; omega
    refine And.intro ?_ trivial
    refine And.intro ?_ trivial
    refine And.intro (Nat.le_refl _) (And.intro (fun i hi => ?_) (And.intro rfl (And.intro (by omega) ?_)))
    · have e : i = 0 := by omega
      subst e; rfl
    intro _
    refine AWp.rename 28 3 rfl rfl ?_
    refine AWp.region ?_
    intro _
    refine round_end (k + 1) (by omega) ?_ (by omega)
    have hlen : f.Blocks.length ≤ maxLen := by unfold maxLen; omega
    refine And.intro ?_ ?_
    · repeat' (first | exact rfl | exact trivial | refine And.intro ?_ ?_)
      exact congrArg (fun z => some (AV.i64 z)) (wrap_succ hk' hlen)
    · refine And.intro rfl (And.intro ?_ (And.intro ⟨_, _, rfl, rfl, fun i hi => ?_⟩ (And.intro trivial trivial)))
      · repeat' (first | exact rfl | exact trivial | refine And.intro ?_ ?_)
      · dsimp only
        by_cases e : i < k + 1
        · rw [if_pos e]
        · have e2 : i = k + 1 := by omega
          subst e2
          rw [if_neg e, startF_succ hk', Nat.sub_self]
          show _ = [AV.i64 _]
          refine congrArg (fun z => [AV.i64 z]) ?_
          show _ = IntKind.i64.wrap (IntKind.i64.wrap (startF f.Blocks ((IntKind.i64.wrap (((k + 1 : Nat) : Int) - 1)).toNat) + 2) + IntKind.i64.wrap (2 * (((f.Blocks.getD k default).Instrs.length : Nat) : Int)))
          rw [hw]; rfl
  have hk3 : ¬ (k : Int) < f.Blocks.length := of_decide_eq_false h
  obtain rfl : k = f.Blocks.length := by omega
  refine AWp.exit ?_
  refine AWp.seq (AWp.region ?_)
  intro _
  refine AWp.freeze 3 (fun i => intC ((startsF f.Blocks).getD i default)) rfl (fun i hi => by rw [startsF_get (by omega)]) ?_
  refine AWp.ret ⟨Or.inl rfl, rfl, ?_⟩
  intro _
  show AV.ro 1 (f.Blocks.length + 1) _ = AV.ro 1 (startsF f.Blocks).length _
  rw [startsF_len]

theorem c_startOf (f : Fun) (b : Nat) (hb : b ≤ f.Blocks.length) (hlen : f.Blocks.length ≤ maxLen) : ACallIs B.P 38 [f.av, .i64 b] (.i64 (startF f.Blocks b)) := by
  refine ACallIs.enter B _ _ Try.func38 rfl rfl Try.ntmps38 Try.results38 rfl fun hreal => ?_
  refine AWp.seq (AWp.region ?_)
  intro _
  refine AWp.seq (AWp.region ?_)
  intro _
  refine AWp.seq (AWp.seq (AWp.region ?_))
  intro _
  refine AWp.block (AWp.loop (fun k : Nat => ⟨[(1, .i64 b), (2, .obj 2 0), (5, .i64 (startF f.Blocks k)), (6, .i64 k)], [(2, .cells f.cells)]⟩) (fun k => k ≤ b) (fun k => b - k) 0 (by simp) ?_ ?_)
  · repeat' (first | exact rfl | exact trivial | refine And.intro ?_ ?_)
  intro k hk
  refine AWp.seq (AWp.seq (AWp.region ?_))
  intro _
  refine AWp.cond (And.intro (fun h => ?_) (fun h => ?_))
  · refine AWp.skip ?_
    have hk' : k < b := by have := of_decide_eq_true h; omega
    refine AWp.seq (AWp.block (AWp.region ?_))
    refine And.intro (fun _ => And.intro (Int.natCast_nonneg _) (Int.ofNat_lt.2 (by omega))) ?_
    intro _
    refine AWp.region ?_
    intro _
    refine round_end (k + 1) (by omega) ?_ (by omega)
    refine And.intro ?_ ?_
    · repeat' (first | exact rfl | exact trivial | refine And.intro ?_ ?_)
      · exact congrArg (fun z => some (AV.i64 z)) (by rw [startF_succ (by omega : k < f.Blocks.length)]; rfl)
      · exact congrArg (fun z => some (AV.i64 z)) (wrap_succ (show k < f.Blocks.length by omega) hlen)
    · repeat' (first | exact rfl | exact trivial | refine And.intro ?_ ?_)
  have hk3 : ¬ (k : Int) < b := of_decide_eq_false h
  obtain rfl : k = b := by omega
  refine AWp.exit ?_
  refine AWp.seq (AWp.region ?_)
  intro _
  refine AWp.ret ⟨Or.inl rfl, rfl, ?_⟩
  intro _
  rfl

theorem c_StartsOf (f : Fun) (hb : f.Blocks.length * 72 ≤ 140737488351232) : ACallIs B.P 15 [f.av] (ints (startsF f.Blocks)) := by
  have hlen : f.Blocks.length ≤ maxLen := by unfold maxLen; omega
  refine ACallIs.enter B _ _ Try.func15 rfl rfl Try.ntmps15 Try.results15 rfl fun hreal => ?_
  refine AWp.seq (AWp.region ?_)
  intro _
  refine AWp.seq (AWp.region ?_)
  intro _
  refine AWp.adopt 3 3 3 1 rfl rfl rfl ?_
  refine AWp.seq (AWp.seq (AWp.region ?_))
  intro _
  refine AWp.block (AWp.loop (fun k : Nat => ⟨[(1, .obj 1 0), (3, .sl 3 k), (4, .i64 k)], [(1, .cells f.cells), (3, .row 3 1 k (fun i => intC (startF f.Blocks i)))]⟩) (fun k => k ≤ f.Blocks.length + 1) (fun k => f.Blocks.length + 1 - k) 0 (by simp) ?_ ?_)
  · refine And.intro ?_ ?_
    · repeat' (first | exact rfl | exact trivial | refine And.intro ?_ ?_)
    · refine And.intro rfl (And.intro ?_ (And.intro ⟨_, _, rfl, rfl, fun i hi => absurd hi (by omega)⟩ (And.intro trivial trivial)))
      repeat' (first | exact rfl | exact trivial | refine And.intro ?_ ?_)
  intro k hk
  refine AWp.seq (AWp.seq (AWp.region ?_))
  intro _
  refine AWp.cond (And.intro (fun h => ?_) (fun h => ?_))
  · refine AWp.skip ?_
    have hk' : k ≤ f.Blocks.length := by have := of_decide_eq_true h; omega
    refine AWp.seq (AWp.block (AWp.region ?_))
    refine CallX.pure (c_startOf f k hk' hlen) rfl rfl rfl ?_
    refine And.intro (Nat.le_refl _) (And.intro (fun i hi => ?_) (And.intro rfl (And.intro (by omega) ?_)))
    · have e : i = 0 := by omega
      subst e; rfl
    intro _
    refine AWp.rename 17 3 rfl rfl ?_
    refine AWp.region ?_
    intro _
    refine round_end (k + 1) (by omega) ?_ (by omega)
    refine And.intro ?_ ?_
    · repeat' (first | exact rfl | exact trivial | refine And.intro ?_ ?_)
      exact congrArg (fun z => some (AV.i64 z)) (by unfold maxLen at hlen; rw [wrap_in (by omega) (by omega)]; omega)
    · refine And.intro rfl (And.intro ?_ (And.intro ⟨_, _, rfl, rfl, fun i hi => ?_⟩ (And.intro trivial trivial)))
      · repeat' (first | exact rfl | exact trivial | refine And.intro ?_ ?_)
      · dsimp only
        by_cases e : i < k
        · rw [if_pos e]
        · have e2 : i = k := by omega
          subst e2
          rw [if_neg e, Nat.sub_self]; rfl
  have hk3 : ¬ (k : Int) ≤ f.Blocks.length := of_decide_eq_false h
  obtain rfl : k = f.Blocks.length + 1 := by omega
  refine AWp.exit ?_
  refine AWp.seq (AWp.region ?_)
  intro _
  refine AWp.freeze 3 (fun i => intC ((startsF f.Blocks).getD i default)) rfl (fun i hi => by rw [startsF_get (by omega)]) ?_
  refine AWp.ret ⟨Or.inl rfl, rfl, ?_⟩
  intro _
  show AV.ro 1 (f.Blocks.length + 1) _ = AV.ro 1 (startsF f.Blocks).length _
  rw [startsF_len]

theorem c_l_LiveStarts (f : Fun) (hb : f.Blocks.length * 72 ≤ 140737488351232) : ACallIs B.P 4 [f.av] (.bool true) := by
  refine ACallIs.enter B _ _ Try.func4 rfl rfl Try.ntmps4 Try.results4 rfl fun hreal => ?_
  repeat' (first
    | refine AWp.seq ?_ | refine AWp.block ?_ | refine AWp.skip ?_ | refine AWp.exit ?_
    | refine AWp.region ?_ | refine AWp.draw mixed (by kernel_rfl) ?_
    | refine AWp.cond (And.intro (fun h => ?_) (fun h => ?_))
    | refine AWp.ret ⟨Or.inl rfl, rfl, ?_⟩
    | refine CallX.pure (c_Starts f hb) rfl rfl rfl ?_ | refine CallK.intro (fun _ => c_Starts f hb) ?_
    | refine CallX.pure (c_StartsOf f hb) rfl rfl rfl ?_ | refine CallK.intro (fun _ => c_StartsOf f hb) ?_
    | refine CallX.pure (c_sameInts (startsF f.Blocks) (startsF f.Blocks)) rfl rfl rfl ?_ | refine CallK.intro (fun _ => c_sameInts (startsF f.Blocks) (startsF f.Blocks)) ?_
    | exact trivial | refine And.intro ?_ ?_ | intro _)
  all_goals first | assumption | (exfalso; simp_all; done) | (simp_all [tupOf]; done) | skip
end Go.Proofs.Ytdilfbdfefppbaa
