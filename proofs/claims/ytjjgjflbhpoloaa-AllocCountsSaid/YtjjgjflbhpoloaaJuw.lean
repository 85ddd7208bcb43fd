/- The document's KnownOf: its contracts; sameKnown. Condition: an output that may be. -/
import Derived.Test.YtjjgjflbhpoloaaJue
set_option linter.unusedVariables false
set_option linter.unusedSimpArgs false
namespace Go.Proofs.Ytjjgjflbhpoloaa
open Go Go.Abs Go.RowKit Go.Abs.Gra
@[reducible] def sbR (W N V : Nat) : HO := .rows 97 1 N (fun c => [.sl ⟨W, [c]⟩ V])
@[reducible] def sbW (N V : Nat) (K : Knw) : HO := .fam (inD N) (fun ix => rowB V (K (ix.headD 0)))
@[reducible] def sbH (N V : Nat) (K : Knw) : List (Nat × HO) := [(1001, sbR 1002 N V), (1002, sbW N V K)]
@[reducible] def wdB (n N : Nat) (ix : List Nat) : Prop := ∃ b c, b < n ∧ c < N ∧ ix = [b, c]
@[reducible] def bbS (W n N V : Nat) : HO := .fam (inD n) (fun ix => .rows 97 1 N (fun c => [.sl ⟨W, [ix.headD 0, c]⟩ V]))
@[reducible] def bbW (n N V : Nat) (P : Nat → Knw) : HO := .fam (wdB n N) (fun ix => rowB V (P (ix.headD 0) (ix.getD 1 0)))
theorem bb_in {n N c : Nat} {z : List Nat} (hz : inD n z) (hc : c < N) : wdB n N [z.headD 0, c] := by
 obtain ⟨b, h1, rfl⟩ := hz; exact ⟨b, c, h1, hc, rfl⟩
theorem sbH_refs {N V : Nat} {K : Knw} : heapRefs (domP (sbH N V K)) (sbH N V K) := zi (fun i h => zi ⟨i, h, rfl⟩ zt) (zi (fun ix h => zt) zt)
theorem sbH_kept {N V : Nat} {K L : Knw} : keptDom (sbH N V L) (sbH N V K) := zi zt (zi (fun ix h => h) zt)
theorem sb_snoc {σ : List (Nat × Nat)} {G : Nat → List AV} {x : AV} {n c : Nat} (hc : c < n + 1) (h1 : AV.sigL σ (G c) = G c) (h2 : AV.sigL σ [x] = [x]) : (if c < n then G c else [x]) = AV.sigL σ (if c < n then G c else ([[x]].getD (c - n) [])) := by
 by_cases e : c < n
 ·rw [if_pos e, if_pos e, h1]
 ·rw [if_neg e, if_neg e, show c = n by omega, Nat.sub_self]; exact h2.symm
theorem sb_via {F T V n c : Nat} (hc : c < n + 1) : (if c < n then [AV.sl ⟨F, [c]⟩ V] else [AV.sl ⟨T, []⟩ V]) = AV.rnL (putρ F n T) [.sl ⟨F, [c]⟩ V] := by
 by_cases e : c < n
 ·rw [if_pos e]; simp only [AV.rnL, AV.rn, putρ_ne (show c ≠ n by omega)]
 ·rw [if_neg e, show c = n by omega]; simp only [AV.rnL, AV.rn, putρ_at]
def mixR (R S : Nat → Bool) (n : Nat) : Nat → Bool := fun v => if v < n then R v else S v
theorem mixR_all {R S : Nat → Bool} {n i : Nat} (h : i < n) : mixR R S n i = R i := if_pos h
theorem mixR_zero {R S : Nat → Bool} {i : Nat} : mixR R S 0 i = S i := if_neg (Nat.not_lt_zero _)
theorem mixR_succ {R S : Nat → Bool} {n i : Nat} : [AV.bool (mixR R S (n + 1) i)] = if i = n then [AV.bool (R n)] else [AV.bool (mixR R S n i)] := by
 unfold mixR
 by_cases e : i = n
 ·subst e; rw [if_pos rfl, if_pos (Nat.lt_succ_self _)]
 ·rw [if_neg e]
  by_cases g2 : i < n
  ·rw [if_pos g2, if_pos (by omega)]
  ·rw [if_neg g2, if_neg (by omega)]
set_option maxHeartbeats 4000000 in
theorem c_sureOf (f : Fun) (o : Oup) (bb : Bool) {N V fr : Nat} (hfr : fr ≤ 1000) (hfo : o.Frame = fr) (hN : N = 22 + fr) (hV : f.Values.length = V) (hV4 : V ≤ 160) :
  ACallM B.P 99 ⟨[f.av, o.av, .bool bb], [], .sl 60 N, [(60, sbR 61 N V), (61, sbW N V (fun _ _ => bb))]⟩ := by
 have hNm : N ≤ maxLen := by unfold maxLen; omega
 have hVm : V ≤ maxLen := by unfold maxLen; omega
 have hw : IntKind.i64.wrap (22 + o.Frame) = ((N : Nat) : Int) := by rw [hfo, wrap_in (by omega) (by omega)]; omega
 refine ACallM.enter B _ _ Try.func99 rfl rfl Try.ntmps99 Try.results99 rfl ?_ fun hreal => ?_
 ·refine zi zt (zi ?_ zt)
  repeat' (first|exact rfl|exact zt|apply zi)
 clear hreal
 repeat (first|apply zq|apply zb|apply zk)
 apply zr;intro _
 refine AWp.freezeObj 3 rfl rfl ?_
 refine AWp.freezeObj 4 rfl rfl ?_
 subst hV
 repeat (first|apply zq|apply zb|apply zk)
 apply zr;intro _
 refine AWp.adopt 7 60 97 1 rfl rfl rfl ?_
 repeat (first|apply zq|apply zb|apply zk)
 apply zr;intro _
 refine AWp.via (newρ 61) ⟨[(2, .bool bb), (3, .ptr f.cells), (4, .ptr o.cells), (7, .sl 60 0), (8, .i64 (0 : Nat))], [(60, sbR 61 0 f.Values.length), (61, sbW 0 f.Values.length ((fun _ _ => bb)))]⟩ ?_ ?_
 ·refine ⟨?_, ?_, newρ_inj 61 _, newρ_old (by decide) _⟩
  ·repeat' (first|exact rfl|exact zt|apply zi)
  ·exact zi (zi ⟨_, ⟨_, rfl, rfl, zt⟩, Or.inr ⟨_, rfl, fun c hc => absurd hc (Nat.not_lt_zero c)⟩⟩ (fun q hq => absurd hq (Nat.not_lt_zero q))) (zi (fun z hz => absurd hz (fun ⟨j, hj, _⟩ => Nat.not_lt_zero j hj)) zt)
 repeat (first|apply zq|apply zb|apply zk)
 refine AWp.loop (fun c : Nat => ⟨[(2, .bool bb), (3, .ptr f.cells), (4, .ptr o.cells), (7, .sl 60 c), (8, .i64 c)], [(60, sbR 61 c f.Values.length), (61, sbW c f.Values.length ((fun _ _ => bb)))]⟩) (fun c => c ≤ N) (fun c => N - c) 0 (Nat.zero_le _) ?_ ?_
 ·refine zi ?_ (zi ⟨_, _, rfl, rfl, fun i h => rfl⟩ (zi (fun i h => zi ⟨i, h, rfl⟩ zt) (zi ⟨_, _, rfl, fun z h => ⟨h, _, _, rfl, rfl, fun i h => rfl⟩⟩ (zi (fun z h => zt) zt))))
  repeat' (first|exact rfl|exact zt|apply zi)
 intro c hc
 repeat (first|apply zq|apply zb|apply zk)
 apply zr;intro _
 repeat (first|apply zq|apply zb|apply zk)
 refine AWp.cond (zi (fun h1 => ?_) (fun h1 => ?_))
 ·have hc' : c < N := by have h := of_decide_eq_true h1; rw [hw] at h; exact Int.ofNat_lt.1 h
  repeat (first|apply zq|apply zb|apply zk)
  apply zr
  refine zi rfl (zi (Int.natCast_nonneg _) (zi (by simp only [Int.toNat_natCast]; omega) ?_))
  intro _
  repeat (first|apply zq|apply zb|apply zk)
  apply zr;intro _
  repeat (first|apply zq|apply zb|apply zk)
  refine AWp.loop (fun v : Nat => ⟨[(2, .bool bb), (3, .ptr f.cells), (4, .ptr o.cells), (7, .sl 60 c), (8, .i64 c), (9, .sl 21 f.Values.length), (10, .i64 v)], [(60, sbR 61 c f.Values.length), (61, sbW c f.Values.length ((fun _ _ => bb))), (21, rowB f.Values.length (fstB ((fun _ _ => bb) c) v))]⟩) (fun v => v ≤ f.Values.length) (fun v => f.Values.length - v) 0 (Nat.zero_le _) ?_ ?_
  ·refine zi ?_ (zi ⟨_, _, rfl, rfl, fun i h => rfl⟩ (zi (fun i h => zi ⟨i, h, rfl⟩ zt) (zi ⟨_, _, rfl, fun z h => ⟨h, _, _, rfl, rfl, fun i h => rfl⟩⟩ (zi (fun z h => zt) (zi (⟨_, _, rfl, rfl, fun i hi => congrArg (fun z => [AV.bool z]) fstB_zero⟩) (zi zt zt))))))
   repeat' (first|exact rfl|exact zt|apply zi)
  intro v hv
  repeat (first|apply zq|apply zb|apply zk)
  apply zr;intro _
  repeat (first|apply zq|apply zb|apply zk)
  refine AWp.cond (zi (fun h2 => ?_) (fun h2 => ?_))
  ·have hv' : v < f.Values.length := Int.ofNat_lt.1 (of_decide_eq_true h2)
   repeat (first|apply zq|apply zb|apply zk)
   apply zr
   repeat' refine zi ?_ ?_
   all_goals first|exact nn (hv')|exact fun _ => nn (hv')|exact hv'|exact fun _ => hv'|skip
   intro _
   repeat (first|apply zq|apply zb|apply zk)
   apply zr;intro _
   refine round_end (v + 1) hv' ?_ (by omega)
   refine zi ?_ (zi ⟨_, _, rfl, rfl, fun i h => rfl⟩ (zi (fun i h => zi ⟨i, h, rfl⟩ zt) (zi ⟨_, _, rfl, fun z h => ⟨h, _, _, rfl, rfl, fun i h => rfl⟩⟩ (zi (fun z h => zt) (zi (⟨_, _, rfl, rfl, fun i hi => fstB_succ rfl⟩) (zi zt zt))))))
   repeat' (first|exact rfl|exact zt|exact congrArg (fun z => some (AV.i64 z)) (wrap_succ hv' hVm)|refine zi ?_ ?_)
  ·have hv3 : ¬ (v : Int) < f.Values.length := of_decide_eq_false h2
   obtain rfl : f.Values.length = v := by omega
   apply ze
   repeat (first|apply zq|apply zb|apply zk)
   apply zr
   repeat' refine zi ?_ ?_
   all_goals first|exact rfl|exact Nat.le_refl _|(intro i hi; have e : i = 0 := (by omega); subst e; exact rfl)|(intro _ i hi; have e : i = 0 := (by omega); subst e; exact rfl)|exact fun i hi => rfl|(show (c + 1) * 24 ≤ _; omega)|skip
   intro _
   refine AWp.rename 35 60 rfl rfl ?_
   refine AWp.weaken (s' := ⟨[(2, .bool bb), (3, .ptr f.cells), (4, .ptr o.cells), (7, .sl 60 (c + 1)), (8, .i64 c)], [(60, .rows 97 1 (c + 1) (fun j => if j < c then [.sl ⟨61, [j]⟩ f.Values.length] else [.sl 21 f.Values.length])), (21, rowB f.Values.length ((fun _ _ => bb) c)), (61, sbW c f.Values.length ((fun _ _ => bb)))]⟩) ?_ ?_
   ·refine zi ?_ (zi (⟨_, _, rfl, rfl, fun i hi => sb_snoc (G := fun j => [.sl ⟨61, [j]⟩ f.Values.length]) hi rfl rfl⟩) (zi ((fun q hq => ?_)) (zi (⟨_, _, rfl, rfl, fun i hi => congrArg (fun z => [AV.bool z]) (fstB_lt (g := (fun _ _ => bb) c) hi).symm⟩) (zi zt (zi ⟨_, _, rfl, fun z h => ⟨h, _, _, rfl, rfl, fun i h => rfl⟩⟩ (zi (fun z h => zt) zt))))))
    ·repeat' (first|exact rfl|exact zt|apply zi)
    ·by_cases e : q < c
     ·show AV.refsPL _ (if q < c then _ else _); rw [if_pos e]; exact zi ⟨q, e, rfl⟩ zt
     ·show AV.refsPL _ (if q < c then _ else _); rw [if_neg e]; exact zi rfl zt
   refine AWp.via (putρ 61 c 21) ⟨[(2, .bool bb), (3, .ptr f.cells), (4, .ptr o.cells), (7, .sl 60 (c + 1)), (8, .i64 c)], [(60, sbR 61 (c + 1) f.Values.length), (61, sbW (c + 1) f.Values.length ((fun _ _ => bb)))]⟩ ?_ ?_
   ·refine ⟨?_, ?_, putρ_inj (fun h => h), putρ_old (by decide) _⟩
    ·repeat' (first|exact rfl|exact zt|apply zi)
    ·refine zi (zi ⟨_, ⟨_, rfl, rfl, zt⟩, Or.inl ⟨_, rfl, fun c hc => sb_via hc⟩⟩ (fun q hq => zi ⟨q, hq, rfl⟩ zt)) (zi (fun z hz => zi ?_ zt) zt)
     obtain ⟨j, hj, rfl⟩ := hz
     unfold viaO
     by_cases e : j = c
     ·subst e
      rw [putρ_at]
      exact ⟨_, ⟨_, rfl, rfl, zt⟩, Or.inl ⟨_, rfl, fun j hj => rfl⟩⟩
     ·rw [putρ_ne e]
      exact ⟨_, ⟨_, rfl, rfl, ⟨j, by omega, rfl⟩⟩, Or.inl ⟨_, rfl, fun j hj => rfl⟩⟩
   repeat (first|apply zq|apply zb|apply zk)
   apply zr;intro _
   refine round_end (c + 1) hc' ?_ (by omega)
   refine zi ?_ (zi ⟨_, _, rfl, rfl, fun i h => rfl⟩ (zi (fun i h => zi ⟨i, h, rfl⟩ zt) (zi ⟨_, _, rfl, fun z h => ⟨h, _, _, rfl, rfl, fun i h => rfl⟩⟩ (zi (fun z h => zt) zt))))
   repeat' (first|exact rfl|exact zt|exact congrArg (fun z => some (AV.i64 z)) (wrap_succ hc' hNm)|refine zi ?_ ?_)
 have hc3 : ¬ (c : Int) < N := by have h := of_decide_eq_false h1; rw [hw] at h; exact h
 obtain rfl : c = N := by omega
 apply ze
 repeat (first|apply zq|apply zb|apply zk)
 apply zr;intro _
 refine AWp.ret ⟨Or.inl rfl, ?_⟩
 intro _
 exact zi rfl (zi rfl (zi ⟨_, _, rfl, rfl, fun i h => rfl⟩ (zi (fun i h => zi ⟨i, h, rfl⟩ zt) (zi ⟨_, _, rfl, fun z h => ⟨h, _, _, rfl, rfl, fun i h => rfl⟩⟩ (zi (fun z h => zt) zt)))))
set_option maxHeartbeats 4000000 in
theorem m_sureCopyAt {N V : Nat} (hN : N ≤ 100000) (hV4 : V ≤ 100000) {n b : Nat} (hb : b < n) (P : Nat → Knw) :
  ACallM B.P 57 ⟨[.sl ⟨1003, [b]⟩ N], [(1003, bbS 1004 n N V), (1004, bbW n N V P)], .sl 60 N, [(60, sbR 61 N V), (61, sbW N V (P b)), (1003, bbS 1004 n N V), (1004, bbW n N V P)]⟩ := by
 have hNm : N ≤ maxLen := by unfold maxLen; omega
 have hVm : V ≤ maxLen := by unfold maxLen; omega
 refine ACallM.enter B _ _ Try.func57 rfl rfl Try.ntmps57 Try.results57 rfl ?_ fun hreal => ?_
 ·refine zi (zi (fun z hz c hc => zi (bb_in hz hc) zt) (zi (fun z h => zt) zt)) (zi (zi ⟨b, hb, rfl⟩ zt) (zi (fun ix h => h) (zi (fun ix h => h) zt)))
 clear hreal
 repeat (first|apply zq|apply zb|apply zk)
 apply zr;intro _
 repeat (first|apply zq|apply zb|apply zk)
 apply zr;intro _
 refine AWp.adopt 3 60 97 1 rfl rfl rfl ?_
 repeat (first|apply zq|apply zb|apply zk)
 apply zr;intro _
 refine AWp.via (newρ 61) ⟨[(0, .sl ⟨1003, [b]⟩ N), (3, .sl 60 0), (4, .i64 (0 : Nat))], [(60, sbR 61 0 V), (61, sbW 0 V ((P b))), (1003, bbS 1004 n N V), (1004, bbW n N V P)]⟩ ?_ ?_
 ·refine ⟨?_, ?_, newρ_inj 61 _, newρ_old (by decide) _⟩
  ·repeat' (first|exact rfl|exact zt|exact ⟨b, hb, rfl⟩|refine zi ?_ ?_)
  ·exact zi (zi ⟨_, ⟨_, rfl, rfl, zt⟩, Or.inr ⟨_, rfl, fun c hc => absurd hc (Nat.not_lt_zero c)⟩⟩ (fun q hq => absurd hq (Nat.not_lt_zero q))) (zi (fun z hz => absurd hz (fun ⟨j, hj, _⟩ => Nat.not_lt_zero j hj)) (zi (fun z hz => zi ⟨_, ⟨_, rfl, rfl, hz⟩, Or.inl ⟨_, rfl, fun i hi => rfl⟩⟩ (fun c hc => zi (bb_in hz hc) zt)) (zi (fun z hz => zi ⟨_, ⟨_, rfl, rfl, hz⟩, Or.inl ⟨_, rfl, fun i hi => rfl⟩⟩ zt) zt)))
 repeat (first|apply zq|apply zb|apply zk)
 refine AWp.loop (fun c : Nat => ⟨[(0, .sl ⟨1003, [b]⟩ N), (3, .sl 60 c), (4, .i64 c)], [(60, sbR 61 c V), (61, sbW c V ((P b))), (1003, bbS 1004 n N V), (1004, bbW n N V P)]⟩) (fun c => c ≤ N) (fun c => N - c) 0 (Nat.zero_le _) ?_ ?_
 ·refine zi ?_ (zi ⟨_, _, rfl, rfl, fun i h => rfl⟩ (zi (fun i h => zi ⟨i, h, rfl⟩ zt) (zi ⟨_, _, rfl, fun z h => ⟨h, _, _, rfl, rfl, fun i h => rfl⟩⟩ (zi (fun z h => zt) (zi ⟨_, _, rfl, fun z h => ⟨h, _, _, rfl, rfl, fun i h => rfl⟩⟩ (zi (fun z hz c hc => zi (bb_in hz hc) zt) (zi ⟨_, _, rfl, fun z h => ⟨h, _, _, rfl, rfl, fun i h => rfl⟩⟩ (zi (fun z h => zt) zt))))))))
  repeat' (first|exact rfl|exact zt|exact ⟨b, hb, rfl⟩|refine zi ?_ ?_)
 intro c hc
 repeat (first|apply zq|apply zb|apply zk)
 apply zr;intro _
 repeat (first|apply zq|apply zb|apply zk)
 refine AWp.cond (zi (fun h1 => ?_) (fun h1 => ?_))
 ·have hc' : c < N := Int.ofNat_lt.1 (of_decide_eq_true h1)
  repeat (first|apply zq|apply zb|apply zk)
  apply zr
  repeat' (first|exact zt|refine zi ?_ ?_|fail)
  all_goals first|exact fun _ => nn (hc')|exact fun _ => hc'|exact fun _ => (by first|exact ⟨b, hb, rfl⟩|exact ⟨b, _, hb, hc', rfl⟩)|exact rfl|exact Int.natCast_nonneg _|(simp only [Int.toNat_natCast]; omega)|skip
  intro _
  repeat (first|apply zq|apply zb|apply zk)
  apply zr;intro _
  repeat (first|apply zq|apply zb|apply zk)
  refine AWp.loop (fun v : Nat => ⟨[(0, .sl ⟨1003, [b]⟩ N), (3, .sl 60 c), (4, .i64 c), (5, .sl 18 V), (6, .i64 v)], [(60, sbR 61 c V), (61, sbW c V ((P b))), (18, rowB V (fstB ((P b) c) v)), (1003, bbS 1004 n N V), (1004, bbW n N V P)]⟩) (fun v => v ≤ V) (fun v => V - v) 0 (Nat.zero_le _) ?_ ?_
  ·refine zi ?_ (zi ⟨_, _, rfl, rfl, fun i h => rfl⟩ (zi (fun i h => zi ⟨i, h, rfl⟩ zt) (zi ⟨_, _, rfl, fun z h => ⟨h, _, _, rfl, rfl, fun i h => rfl⟩⟩ (zi (fun z h => zt) (zi (⟨_, _, rfl, rfl, fun i hi => congrArg (fun z => [AV.bool z]) fstB_zero⟩) (zi zt (zi ⟨_, _, rfl, fun z h => ⟨h, _, _, rfl, rfl, fun i h => rfl⟩⟩ (zi (fun z hz c hc => zi (bb_in hz hc) zt) (zi ⟨_, _, rfl, fun z h => ⟨h, _, _, rfl, rfl, fun i h => rfl⟩⟩ (zi (fun z h => zt) zt))))))))))
   repeat' (first|exact rfl|exact zt|exact ⟨b, hb, rfl⟩|refine zi ?_ ?_)
  intro v hv
  repeat (first|apply zq|apply zb|apply zk)
  apply zr;intro _
  repeat (first|apply zq|apply zb|apply zk)
  refine AWp.cond (zi (fun h2 => ?_) (fun h2 => ?_))
  ·have hv' : v < V := Int.ofNat_lt.1 (of_decide_eq_true h2)
   repeat (first|apply zq|apply zb|apply zk)
   apply zr
   repeat' (first|exact zt|refine zi ?_ ?_|fail)
   all_goals first|exact nn (hv')|exact fun _ => nn (hv')|exact fun _ => nn (hc')|exact hv'|exact fun _ => hv'|exact hc'|exact fun _ => hc'|exact fun _ => (by first|exact ⟨b, hb, rfl⟩|exact ⟨b, _, hb, hc', rfl⟩)|exact (by first|exact ⟨b, hb, rfl⟩|exact ⟨b, _, hb, hc', rfl⟩)|skip
   intro _
   repeat (first|apply zq|apply zb|apply zk)
   apply zr;intro _
   refine round_end (v + 1) hv' ?_ (by omega)
   refine zi ?_ (zi ⟨_, _, rfl, rfl, fun i h => rfl⟩ (zi (fun i h => zi ⟨i, h, rfl⟩ zt) (zi ⟨_, _, rfl, fun z h => ⟨h, _, _, rfl, rfl, fun i h => rfl⟩⟩ (zi (fun z h => zt) (zi (⟨_, _, rfl, rfl, fun i hi => fstB_succ rfl⟩) (zi zt (zi ⟨_, _, rfl, fun z h => ⟨h, _, _, rfl, rfl, fun i h => rfl⟩⟩ (zi (fun z hz c hc => zi (bb_in hz hc) zt) (zi ⟨_, _, rfl, fun z h => ⟨h, _, _, rfl, rfl, fun i h => rfl⟩⟩ (zi (fun z h => zt) zt))))))))))
   repeat' (first|exact rfl|exact zt|exact ⟨b, hb, rfl⟩|exact congrArg (fun z => some (AV.i64 z)) (wrap_succ hv' hVm)|refine zi ?_ ?_)
  ·have hv3 : ¬ (v : Int) < V := of_decide_eq_false h2
   obtain rfl : V = v := by omega
   apply ze
   repeat (first|apply zq|apply zb|apply zk)
   apply zr
   repeat' refine zi ?_ ?_
   all_goals first|exact rfl|exact Nat.le_refl _|(intro i hi; have e : i = 0 := (by omega); subst e; exact rfl)|(intro _ i hi; have e : i = 0 := (by omega); subst e; exact rfl)|exact fun i hi => rfl|(show (c + 1) * 24 ≤ _; omega)|skip
   intro _
   refine AWp.rename 38 60 rfl rfl ?_
   refine AWp.weaken (s' := ⟨[(0, .sl ⟨1003, [b]⟩ N), (3, .sl 60 (c + 1)), (4, .i64 c)], [(60, .rows 97 1 (c + 1) (fun j => if j < c then [.sl ⟨61, [j]⟩ V] else [.sl 18 V])), (18, rowB V ((P b) c)), (61, sbW c V ((P b))), (1003, bbS 1004 n N V), (1004, bbW n N V P)]⟩) ?_ ?_
   ·refine zi ?_ (zi (⟨_, _, rfl, rfl, fun i hi => sb_snoc (G := fun j => [.sl ⟨61, [j]⟩ V]) hi rfl rfl⟩) (zi ((fun q hq => ?_)) (zi (⟨_, _, rfl, rfl, fun i hi => congrArg (fun z => [AV.bool z]) (fstB_lt (g := (P b) c) hi).symm⟩) (zi zt (zi ⟨_, _, rfl, fun z h => ⟨h, _, _, rfl, rfl, fun i h => rfl⟩⟩ (zi (fun z h => zt) (zi ⟨_, _, rfl, fun z h => ⟨h, _, _, rfl, rfl, fun i h => rfl⟩⟩ (zi (fun z hz c hc => zi (bb_in hz hc) zt) (zi ⟨_, _, rfl, fun z h => ⟨h, _, _, rfl, rfl, fun i h => rfl⟩⟩ (zi (fun z h => zt) zt))))))))))
    ·repeat' (first|exact rfl|exact zt|exact ⟨b, hb, rfl⟩|refine zi ?_ ?_)
    ·by_cases e : q < c
     ·show AV.refsPL _ (if q < c then _ else _); rw [if_pos e]; exact zi ⟨q, e, rfl⟩ zt
     ·show AV.refsPL _ (if q < c then _ else _); rw [if_neg e]; exact zi rfl zt
   refine AWp.via (putρ 61 c 18) ⟨[(0, .sl ⟨1003, [b]⟩ N), (3, .sl 60 (c + 1)), (4, .i64 c)], [(60, sbR 61 (c + 1) V), (61, sbW (c + 1) V ((P b))), (1003, bbS 1004 n N V), (1004, bbW n N V P)]⟩ ?_ ?_
   ·refine ⟨?_, ?_, putρ_inj (fun h => h), putρ_old (by decide) _⟩
    ·repeat' (first|exact rfl|exact zt|exact ⟨b, hb, rfl⟩|refine zi ?_ ?_)
    ·refine zi (zi ⟨_, ⟨_, rfl, rfl, zt⟩, Or.inl ⟨_, rfl, fun c hc => sb_via hc⟩⟩ (fun q hq => zi ⟨q, hq, rfl⟩ zt)) (zi (fun z hz => zi ?_ zt) (zi (fun z hz => zi ⟨_, ⟨_, rfl, rfl, hz⟩, Or.inl ⟨_, rfl, fun i hi => rfl⟩⟩ (fun c hc => zi (bb_in hz hc) zt)) (zi (fun z hz => zi ⟨_, ⟨_, rfl, rfl, hz⟩, Or.inl ⟨_, rfl, fun i hi => rfl⟩⟩ zt) zt)))
     obtain ⟨j, hj, rfl⟩ := hz
     unfold viaO
     by_cases e : j = c
     ·subst e
      rw [putρ_at]
      exact ⟨_, ⟨_, rfl, rfl, zt⟩, Or.inl ⟨_, rfl, fun j hj => rfl⟩⟩
     ·rw [putρ_ne e]
      exact ⟨_, ⟨_, rfl, rfl, ⟨j, by omega, rfl⟩⟩, Or.inl ⟨_, rfl, fun j hj => rfl⟩⟩
   repeat (first|apply zq|apply zb|apply zk)
   apply zr;intro _
   refine round_end (c + 1) hc' ?_ (by omega)
   refine zi ?_ (zi ⟨_, _, rfl, rfl, fun i h => rfl⟩ (zi (fun i h => zi ⟨i, h, rfl⟩ zt) (zi ⟨_, _, rfl, fun z h => ⟨h, _, _, rfl, rfl, fun i h => rfl⟩⟩ (zi (fun z h => zt) (zi ⟨_, _, rfl, fun z h => ⟨h, _, _, rfl, rfl, fun i h => rfl⟩⟩ (zi (fun z hz c hc => zi (bb_in hz hc) zt) (zi ⟨_, _, rfl, fun z h => ⟨h, _, _, rfl, rfl, fun i h => rfl⟩⟩ (zi (fun z h => zt) zt))))))))
   repeat' (first|exact rfl|exact zt|exact ⟨b, hb, rfl⟩|exact congrArg (fun z => some (AV.i64 z)) (wrap_succ hc' hNm)|refine zi ?_ ?_)
 have hc3 : ¬ (c : Int) < N := of_decide_eq_false h1
 obtain rfl : c = N := by omega
 apply ze
 repeat (first|apply zq|apply zb|apply zk)
 apply zr;intro _
 refine AWp.ret ⟨Or.inl rfl, ?_⟩
 intro _
 exact zi rfl (zi rfl (zi ⟨_, _, rfl, rfl, fun i h => rfl⟩ (zi (fun i h => zi ⟨i, h, rfl⟩ zt) (zi ⟨_, _, rfl, fun z h => ⟨h, _, _, rfl, rfl, fun i h => rfl⟩⟩ (zi (fun z h => zt) (zi ⟨_, _, rfl, fun z h => ⟨h, _, _, rfl, rfl, fun i h => rfl⟩⟩ (zi (fun z hz c hc => zi (bb_in hz hc) zt) (zi ⟨_, _, rfl, fun z h => ⟨h, _, _, rfl, rfl, fun i h => rfl⟩⟩ (zi (fun z h => zt) zt)))))))))
section
variable {K : Knw} {R S : Nat → Bool} {c n i j v : Nat}
theorem mx_same {b : Bool} (h : b = R n) : [AV.bool (setK K c (mixR R S (n + 1)) c i)] = if i = n then [AV.bool b] else [AV.bool (setK K c (mixR R S n) c i)] := by
 subst h
 rw [setK, if_pos rfl, setK, if_pos rfl]; exact mixR_succ
theorem mx_ne {A B : Nat → Bool} (h : j ≠ c) : [AV.bool (setK K c A j i)] = [AV.bool (setK K c B j i)] := by
 rw [setK, if_neg h, setK, if_neg h]
theorem mx_zero : [AV.bool (setK K c (mixR R (K c) 0) j i)] = [AV.bool (K j i)] := by
 unfold setK
 by_cases e : j = c
 ·subst e; rw [if_pos rfl, mixR_zero]
 ·rw [if_neg e]
theorem mx_all {V : Nat} (h : i < V) : [AV.bool (setK K c R j i)] = [AV.bool (setK K c (mixR R S V) j i)] := by
 unfold setK
 by_cases e : j = c
 ·rw [if_pos e, if_pos e, mixR_all h]
 ·rw [if_neg e, if_neg e]
end
theorem mvFrom {K : Knw} {t s n : Nat} : setK K t (mixR (K s) (K t) n) s n = K s n := by
 unfold setK
 by_cases e : s = t
 ·subst e; rw [if_pos rfl, mixR, if_neg (Nat.lt_irrefl _)]
 ·rw [if_neg e]
set_option maxHeartbeats 1000000 in
theorem m_none {N V c : Nat} (hc : c < N) (hV4 : V ≤ 100000) (K : Knw) :
  ACallM B.P 100 ⟨[.sl 1001 N, .i64 c], sbH N V K, .tup [], sbH N V (setK K c nonS)⟩ := by
 have hVm : V ≤ maxLen := by unfold maxLen; omega
 refine ACallM.enter B _ _ Try.func100 rfl rfl Try.ntmps100 Try.results100 rfl ?_ fun hreal => ?_
 ·refine zi sbH_refs (zi (zi rfl (zi zt zt)) sbH_kept)
 clear hreal
 repeat (first|apply zq|apply zb|apply zk)
 apply zr;intro _
 repeat (first|apply zq|apply zb|apply zk)
 refine AWp.loop (fun v : Nat => ⟨[(0, .sl 1001 N), (1, .i64 c), (4, .i64 v)], [(1001, sbR 1002 N V), (1002, sbW N V (setK K c (mixR nonS (K c) v)))]⟩) (fun v => v ≤ V) (fun v => V - v) 0 (Nat.zero_le _) ?_ ?_
 ·refine zi ?_ (zi ⟨_, _, rfl, rfl, fun i h => rfl⟩ (zi (fun i h => zi ⟨i, h, rfl⟩ zt) (zi (⟨_, _, rfl, fun z hz => ⟨hz, _, _, rfl, rfl, fun i hi => mx_zero⟩⟩) (zi (fun z h => zt) zt))))
  repeat' (first|exact rfl|exact zt|apply zi)
 intro v hv
 repeat (first|apply zq|apply zb|apply zk)
 apply zr
 repeat' (first|exact zt|refine zi ?_ ?_|fail)
 all_goals first|exact fun _ => nn (hc)|exact fun _ => hc|exact fun _ => ⟨_, hc, rfl⟩|skip
 intro _
 repeat (first|apply zq|apply zb|apply zk)
 refine AWp.cond (zi (fun h1 => ?_) (fun h1 => ?_))
 ·have hv' : v < V := Int.ofNat_lt.1 (of_decide_eq_true h1)
  repeat (first|apply zq|apply zb|apply zk)
  apply zr
  repeat' (first|exact zt|refine zi ?_ ?_|fail)
  all_goals first|exact fun _ => nn (hc)|exact fun _ => hc|exact fun _ => ⟨_, hc, rfl⟩|exact fun _ => nn (hv')|exact hv'|skip
  intro _
  repeat (first|apply zq|apply zb|apply zk)
  apply zr;intro _
  refine round_end (v + 1) hv' ?_ (by omega)
  refine zi ?_ (zi ⟨_, _, rfl, rfl, fun i h => rfl⟩ (zi (fun i h => zi ⟨i, h, rfl⟩ zt) (zi (⟨_, _, rfl, fun z hz => ⟨hz, sub1_sel (fun e i hi => ?_) (fun e i hi => ?_)⟩⟩) (zi (fun z h => zt) zt))))
  ·repeat' (first|exact rfl|exact zt|exact congrArg (fun z => some (AV.i64 z)) (wrap_succ hv' hVm)|refine zi ?_ ?_)
  ·obtain ⟨j, hj, rfl⟩ := hz
   obtain rfl : j = c := by injection e
   exact mx_same rfl
  ·obtain ⟨j, hj, rfl⟩ := hz
   exact mx_ne fun h => e (congrArg (fun x => [x]) h)
 ·have hv3 : ¬ (v : Int) < V := of_decide_eq_false h1
  obtain rfl : V = v := by omega
  apply ze
  refine ⟨Or.inr rfl, ?_⟩
  intro _
  exact zi rfl (zi zt (zi ⟨_, _, rfl, rfl, fun i h => rfl⟩ (zi (fun i h => zi ⟨i, h, rfl⟩ zt) (zi (⟨_, _, rfl, fun z hz => ⟨hz, _, _, rfl, rfl, fun i hi => mx_all hi⟩⟩) (zi (fun z h => zt) zt)))))
set_option maxHeartbeats 4000000 in
theorem m_movedSure (o : Oup) (hok : Oup.ok o) {fr V : Nat} (hfr : fr ≤ 1000) (hV4 : V ≤ 100000) (K : Knw) (b a : Nat) (hM : ∀ i k, i < o.Edits.length → k < (o.Edits.getD i default).Moves.length → PlOk fr ((o.Edits.getD i default).Moves.getD k default).From ∧ PlOk fr ((o.Edits.getD i default).Moves.getD k default).To) :
  ACallM B.P 58 ⟨[o.av, .sl 1001 (22 + fr), .i64 b, .i64 a], sbH (22 + fr) V K, .tup [], sbH (22 + fr) V (edKA o b a K)⟩ := by
 have hlen := edits_len hok
 have hVm : V ≤ maxLen := by unfold maxLen; omega
 refine ACallM.enter B _ _ Try.func58 rfl rfl Try.ntmps58 Try.results58 rfl ?_ fun hreal => ?_
 ·refine zi sbH_refs (zi ?_ sbH_kept)
  repeat' (first|exact rfl|exact zt|apply zi)
 clear hreal
 repeat (first|apply zq|apply zb|apply zk)
 apply zr;intro _
 refine AWp.freezeObj 4 rfl rfl ?_
 repeat (first|apply zq|apply zb|apply zk)
 apply zr;intro _
 repeat (first|apply zq|apply zb|apply zk)
 refine AWp.loop (fun i : Nat => ⟨[(1, .sl 1001 (22 + fr)), (2, .i64 b), (3, .i64 a), (4, .ptr o.cells), (8, .i64 i)], [(1001, sbR 1002 (22 + fr) V), (1002, sbW (22 + fr) V (edK o.Edits b a K i))]⟩) (fun i => i ≤ o.Edits.length) (fun i => o.Edits.length - i) 0 (Nat.zero_le _) ?_ ?_
 ·refine zi ?_ (zi ⟨_, _, rfl, rfl, fun i h => rfl⟩ (zi (fun i h => zi ⟨i, h, rfl⟩ zt) (zi ⟨_, _, rfl, fun z h => ⟨h, _, _, rfl, rfl, fun i h => rfl⟩⟩ (zi (fun z h => zt) zt))))
  repeat' (first|exact rfl|exact zt|apply zi)
 intro i hi
 repeat (first|apply zq|apply zb|apply zk)
 apply zr;intro _
 repeat (first|apply zq|apply zb|apply zk)
 refine AWp.cond (zi (fun h1 => ?_) (fun h1 => ?_))
 ·have hi' : i < o.Edits.length := Int.ofNat_lt.1 (of_decide_eq_true h1)
  have hml := moves_len hok hi'
  have hmx : (o.Edits.getD i default).Moves.length ≤ maxLen := by unfold maxLen; omega
  repeat (first|apply zq|apply zb|apply zk)
  apply zr
  repeat' (first|exact zt|refine zi ?_ ?_|fail)
  all_goals first|exact fun _ => nn (hi')|exact fun h => h|exact gT|exact gF|exact gN|exact gA|skip
  intro _
  repeat (first|apply zq|apply zb|apply zk)
  refine AWp.cond (zi (fun h2 => ?_) (fun h2 => ?_))
  ·have e : edK o.Edits b a K (i + 1) = edK o.Edits b a K i := edK_no (by clear hml hmx; simp only [bif_if, Int.toNat_natCast] at h2; grind)
   apply ze
   repeat (first|apply zq|apply zb|apply zk)
   apply zr;intro _
   refine round_end (i + 1) hi' ?_ (by omega)
   rw [e]
   refine zi ?_ (zi ⟨_, _, rfl, rfl, fun i h => rfl⟩ (zi (fun i h => zi ⟨i, h, rfl⟩ zt) (zi ⟨_, _, rfl, fun z h => ⟨h, _, _, rfl, rfl, fun i h => rfl⟩⟩ (zi (fun z h => zt) zt))))
   repeat' (first|exact rfl|exact zt|exact congrArg (fun z => some (AV.i64 z)) (wrap_succ hi' hlen)|refine zi ?_ ?_)
  have e : edK o.Edits b a K (i + 1) = mvK (o.Edits.getD i default) (edK o.Edits b a K i) (o.Edits.getD i default).Moves.length := edK_yes (by clear hml hmx; simp only [bif_if, Int.toNat_natCast] at h2; grind)
  repeat (first|apply zq|apply zb|apply zk)
  apply zr;intro _
  repeat (first|apply zq|apply zb|apply zk)
  refine AWp.loop (fun k : Nat => ⟨[(1, .sl 1001 (22 + fr)), (2, .i64 b), (3, .i64 a), (4, .ptr o.cells), (8, .i64 i), (9, .i64 k)], [(1001, sbR 1002 (22 + fr) V), (1002, sbW (22 + fr) V (mvK (o.Edits.getD i default) (edK o.Edits b a K i) k))]⟩) (fun k => k ≤ (o.Edits.getD i default).Moves.length) (fun k => (o.Edits.getD i default).Moves.length - k) 0 (Nat.zero_le _) ?_ ?_
  ·refine zi ?_ (zi ⟨_, _, rfl, rfl, fun i h => rfl⟩ (zi (fun i h => zi ⟨i, h, rfl⟩ zt) (zi ⟨_, _, rfl, fun z h => ⟨h, _, _, rfl, rfl, fun i h => rfl⟩⟩ (zi (fun z h => zt) zt))))
   repeat' (first|exact rfl|exact zt|apply zi)
  intro k hk
  repeat (first|apply zq|apply zb|apply zk)
  apply zr
  repeat' (first|exact zt|refine zi ?_ ?_|fail)
  all_goals first|exact fun _ => nn (hi')|skip
  intro _
  repeat (first|apply zq|apply zb|apply zk)
  refine AWp.cond (zi (fun h3 => ?_) (fun h3 => ?_))
  ·have hk' : k < (o.Edits.getD i default).Moves.length := Int.ofNat_lt.1 (of_decide_eq_true h3)
   obtain ⟨hF, hT⟩ := hM i k hi' hk'
   have hFl := hF.lt
   have hTl := hT.lt
   repeat (first|apply zq|apply zb|apply zk)
   apply zr
   repeat' (first|exact zt|refine zi ?_ ?_|fail)
   all_goals first|exact fun _ => nn (hi')|exact fun _ => nn (hk')|skip
   intro _
   refine AWp.freezeObj 10 rfl rfl ?_
   repeat (first|apply zq|apply zb|apply zk)
   apply zr;intro _
   repeat (first|apply zq|apply zb|apply zk)
   refine AWp.loop (fun n : Nat => ⟨[(1, .sl 1001 (22 + fr)), (2, .i64 b), (3, .i64 a), (4, .ptr o.cells), (8, .i64 i), (9, .i64 k), (10, .ptr ((o.Edits.getD i default).Moves.getD k default).cells), (11, .i64 n)], [(1001, sbR 1002 (22 + fr) V), (1002, sbW (22 + fr) V (setK (mvK (o.Edits.getD i default) (edK o.Edits b a K i) k) (celF ((o.Edits.getD i default).Moves.getD k default).To) (mixR ((mvK (o.Edits.getD i default) (edK o.Edits b a K i) k) (celF ((o.Edits.getD i default).Moves.getD k default).From)) ((mvK (o.Edits.getD i default) (edK o.Edits b a K i) k) (celF ((o.Edits.getD i default).Moves.getD k default).To)) n)))]⟩) (fun n => n ≤ V) (fun n => V - n) 0 (Nat.zero_le _) ?_ ?_
   ·refine zi ?_ (zi ⟨_, _, rfl, rfl, fun i h => rfl⟩ (zi (fun i h => zi ⟨i, h, rfl⟩ zt) (zi (⟨_, _, rfl, fun z hz => ⟨hz, _, _, rfl, rfl, fun i hi => mx_zero⟩⟩) (zi (fun z h => zt) zt))))
    repeat' (first|exact rfl|exact zt|apply zi)
   intro n hn
   repeat (first|apply zq|apply zb|apply zk)
   apply zr
   repeat' (first|exact zt|refine zi ?_ ?_|refine CallX.pure (c_cellOf hfr hT) rfl rfl rfl ?_|refine CallK.intro (fun _ => c_cellOf hfr hT) ?_|fail)
   all_goals first|exact fun _ => nn (hTl)|exact fun _ => hTl|exact fun _ => ⟨_, hTl, rfl⟩|skip
   intro _
   repeat (first|apply zq|apply zb|apply zk)
   refine AWp.cond (zi (fun h4 => ?_) (fun h4 => ?_))
   ·have hn' : n < V := Int.ofNat_lt.1 (of_decide_eq_true h4)
    repeat (first|apply zq|apply zb|apply zk)
    refine AWp.mono (Q := fun x s => x = .normal ∧ Sub ⟨[(1, .sl 1001 (22 + fr)), (2, .i64 b), (3, .i64 a), (4, .ptr o.cells), (8, .i64 i), (9, .i64 k), (10, .ptr ((o.Edits.getD i default).Moves.getD k default).cells), (11, .i64 n)], [(1001, sbR 1002 (22 + fr) V), (1002, sbW (22 + fr) V (setK (mvK (o.Edits.getD i default) (edK o.Edits b a K i) k) (celF ((o.Edits.getD i default).Moves.getD k default).To) (mixR ((mvK (o.Edits.getD i default) (edK o.Edits b a K i) k) (celF ((o.Edits.getD i default).Moves.getD k default).From)) ((mvK (o.Edits.getD i default) (edK o.Edits b a K i) k) (celF ((o.Edits.getD i default).Moves.getD k default).To)) (n + 1))))]⟩ s) ?_ ?_
    ·refine AWp.quietP (.q 0 (.q 1 (.q 2 (.q 6 (.q 7 (.q 8 (.q 9 (.q 13 (.c 3 false (.q 4 (.c 5 false (.c 10 false (.q 11 (.c 12 false (.q 14 (.c 15 false (.q 16 (.c 17 true .fin .no)) .no)) .no)) .no) (.c 10 false (.q 11 (.c 5 false (.c 12 false (.q 14 (.c 15 false (.q 16 (.c 17 true .fin .no)) .no)) .no) (.c 12 false (.q 14 (.c 5 false (.c 15 false (.q 16 (.c 17 true .fin .no)) .no) (.c 15 false (.c 5 false (.q 16 (.c 17 true .fin .no)) .no) .no))) .no))) .no))) .no))))))))) [0, 1, 2, 4, 6, 7, 8, 9, 11, 13, 14, 16] [] mixed (by kernel_rfl) ?_
     repeat' (first|exact zt|refine zi ?_ ?_|refine CallX.pure (c_cellOf hfr hF) rfl rfl rfl ?_|refine CallX.pure (c_cellOf hfr hT) rfl rfl rfl ?_|refine CallK.intro (fun _ => c_cellOf hfr hF) ?_|refine CallK.intro (fun _ => c_cellOf hfr hT) ?_|fail)
     all_goals first|exact fun _ => nn (hi')|exact fun _ => nn (hk')|exact fun _ => nn (hn')|exact fun _ => nn (hTl)|exact fun _ => nn (hFl)|exact fun _ => hTl|exact fun _ => hFl|exact fun _ => ⟨_, hTl, rfl⟩|exact fun _ => ⟨_, hFl, rfl⟩|exact hn'|exact fun _ => hn'|skip
     all_goals
      intro _
      refine zi rfl ?_
      refine zi ?_ (zi ⟨_, _, rfl, rfl, fun i h => rfl⟩ (zi (fun i h => zi ⟨i, h, rfl⟩ zt) (zi (⟨_, _, rfl, fun z hz => ⟨hz, sub1_sel (fun e u hu => ?_) (fun e u hu => ?_)⟩⟩) (zi (fun z h => zt) zt))))
      ·repeat' (first|exact rfl|exact zt|apply zi)
      ·obtain ⟨j, hj, rfl⟩ := hz
       obtain rfl : j = celF ((o.Edits.getD i default).Moves.getD k default).To := (List.cons.inj e).1
       refine mx_same ?_
       exact mvFrom
      ·obtain ⟨j, hj, rfl⟩ := hz
       exact mx_ne fun h => e (congrArg (fun x => [x]) h)
    rintro _ _ ⟨rfl, hs1⟩
    refine AWp.weaken hs1 ?_
    repeat (first|apply zq|apply zb|apply zk)
    apply zr;intro _
    refine round_end (n + 1) hn' ?_ (by omega)
    refine zi ?_ (zi ⟨_, _, rfl, rfl, fun i h => rfl⟩ (zi (fun i h => zi ⟨i, h, rfl⟩ zt) (zi ⟨_, _, rfl, fun z h => ⟨h, _, _, rfl, rfl, fun i h => rfl⟩⟩ (zi (fun z h => zt) zt))))
    repeat' (first|exact rfl|exact zt|exact congrArg (fun z => some (AV.i64 z)) (wrap_succ hn' hVm)|refine zi ?_ ?_)
   ·have hn3 : ¬ (n : Int) < V := of_decide_eq_false h4
    obtain rfl : V = n := by omega
    apply ze
    repeat (first|apply zq|apply zb|apply zk)
    apply zr;intro _
    refine round_end (k + 1) hk' ?_ (by omega)
    refine zi ?_ (zi ⟨_, _, rfl, rfl, fun i h => rfl⟩ (zi (fun i h => zi ⟨i, h, rfl⟩ zt) (zi (⟨_, _, rfl, fun z hz => ⟨hz, _, _, rfl, rfl, fun i hi => mx_all hi⟩⟩) (zi (fun z h => zt) zt))))
    repeat' (first|exact rfl|exact zt|exact congrArg (fun z => some (AV.i64 z)) (wrap_succ hk' hmx)|refine zi ?_ ?_)
  ·have hk3 : ¬ (k : Int) < (o.Edits.getD i default).Moves.length := of_decide_eq_false h3
   obtain rfl : k = (o.Edits.getD i default).Moves.length := by omega
   apply ze
   repeat (first|apply zq|apply zb|apply zk)
   apply zr;intro _
   refine round_end (i + 1) hi' ?_ (by omega)
   rw [e]
   refine zi ?_ (zi ⟨_, _, rfl, rfl, fun i h => rfl⟩ (zi (fun i h => zi ⟨i, h, rfl⟩ zt) (zi ⟨_, _, rfl, fun z h => ⟨h, _, _, rfl, rfl, fun i h => rfl⟩⟩ (zi (fun z h => zt) zt))))
   repeat' (first|exact rfl|exact zt|exact congrArg (fun z => some (AV.i64 z)) (wrap_succ hi' hlen)|refine zi ?_ ?_)
 ·have hi3 : ¬ (i : Int) < o.Edits.length := of_decide_eq_false h1
  obtain rfl : i = o.Edits.length := by omega
  apply ze
  refine ⟨Or.inr rfl, ?_⟩
  intro _
  exact zi rfl (zi zt (zi ⟨_, _, rfl, rfl, fun i h => rfl⟩ (zi (fun i h => zi ⟨i, h, rfl⟩ zt) (zi ⟨_, _, rfl, fun z h => ⟨h, _, _, rfl, rfl, fun i h => rfl⟩⟩ (zi (fun z h => zt) zt)))))
def ok0 (x : Ins) (p : List Plc) (K : Knw) (q : Nat) : Bool := bif (x.Operands.getD q default).Kind == 2 then true else K (celF (p.getD q default)) (x.Operands.getD q default).Value.toNat
section
variable {x : Ins} {p : List Plc} {K K0 K2 : Knw} {v n N i j c u q : Nat}
theorem ok1_no (hk : (x.Operands.getD q default).Kind = 1 ∨ (x.Operands.getD q default).Kind = 2) (h : ¬ ((x.Operands.getD q default).Kind = 1 ∧ (x.Operands.getD q default).Late = true)) : okK x p K0 K2 q = ok0 x p K0 q := by
 unfold okK ok0
 rcases hk with h1 | h1
 ·have : (x.Operands.getD q default).Late = false := Bool.eq_false_iff.2 fun e => h ⟨h1, e⟩
  rw [h1, this]; rfl
 ·rw [h1]; rfl
theorem ok1_yes (h : (x.Operands.getD q default).Kind = 1 ∧ (x.Operands.getD q default).Late = true) : K2 (celF (p.getD q default)) (x.Operands.getD q default).Value.toNat = okK x p K0 K2 q := by
 unfold okK
 rw [h.1, h.2]; rfl
theorem mixR_no {R S : Nat → Bool} (h : R n = S n) : [AV.bool (mixR R S (n + 1) u)] = [AV.bool (mixR R S n u)] := by
 unfold mixR
 by_cases e : u = n
 ·subst e; rw [if_pos (by omega), if_neg (by omega), h]
 ·by_cases g : u < n
  ·rw [if_pos g, if_pos (by omega)]
  ·rw [if_neg g, if_neg (by omega)]
theorem mixR_yes {R S : Nat → Bool} {b : Bool} (h : b = R n) : [AV.bool (mixR R S (n + 1) u)] = if u = n then [AV.bool b] else [AV.bool (mixR R S n u)] := by
 subst h; exact mixR_succ
theorem db_same : [AV.bool (drK K v (c + 1) c u)] = if u = v then [AV.bool false] else [AV.bool (drK K v c c u)] := by
 unfold drK
 rw [if_pos (Nat.lt_succ_self _), if_neg (Nat.lt_irrefl _)]
 unfold dropS
 by_cases e : u = v
 ·rw [if_pos e, decide_eq_true e, Bool.not_true, Bool.and_false]
 ·rw [if_neg e, decide_eq_false e, Bool.not_false, Bool.and_true]
theorem db_ne (h : j ≠ c) : [AV.bool (drK K v (c + 1) j u)] = [AV.bool (drK K v c j u)] := by
 unfold drK
 by_cases g : j < c
 ·rw [if_pos g, if_pos (by omega)]
 ·rw [if_neg g, if_neg (by omega)]
theorem db_zero : [AV.bool (drK K v 0 j u)] = [AV.bool (K j u)] := by rw [drK_zero]
theorem mk_same : [AV.bool (mkK1 K v c c u)] = if u = v then [AV.bool true] else [AV.bool (setK (drK K v N) c nonS c u)] := by
 unfold mkK1 setK
 rw [if_pos rfl, if_pos rfl]
 unfold putS nonS
 by_cases e : u = v
 ·rw [if_pos e, decide_eq_true e, Bool.or_true]
 ·rw [if_neg e, decide_eq_false e, Bool.or_false]
theorem mk_ne (h : j ≠ c) (hj : j < N) : [AV.bool (mkK1 K v c j u)] = [AV.bool (setK (drK K v N) c nonS j u)] := by
 unfold mkK1 setK
 rw [if_neg h, if_neg h, drK_all hj]
end
set_option maxHeartbeats 16000000 in
theorem m_instrSure (f : Fun) (hC : Chkd f) (o : Oup) {fr : Nat} (hfr : fr ≤ 1000) (K : Knw) (b a : Nat) (hb : b < f.Blocks.length) (ha : a < (f.Blocks.getD b default).Instrs.length) (hb2 : b < o.Places.length) (ha2 : a < (o.Places.getD b default).length) (hpl : (plAt o b a).length = (insAt f b a).Operands.length) (hp : ∀ i, i < (insAt f b a).Operands.length → PlOk fr ((plAt o b a).getD i default)) (hkd : ∀ q, q < (insAt f b a).Operands.length → ((insAt f b a).Operands.getD q default).Kind = 1 ∨ ((insAt f b a).Operands.getD q default).Kind = 2) (hs : ∀ i, i < (insAt f b a).Spoils.length → (0 ≤ ((insAt f b a).Spoils.getD i default).Class ∧ ((insAt f b a).Spoils.getD i default).Class < 2) ∧ (0 ≤ ((insAt f b a).Spoils.getD i default).N ∧ ((insAt f b a).Spoils.getD i default).N < 11)) :
  ACallM B.P 59 ⟨[f.av, o.av, .sl 1001 (22 + fr), .i64 b, .i64 a], sbH (22 + fr) f.Values.length K, .sl 39 (insAt f b a).Operands.length, (39, rowB (insAt f b a).Operands.length (okA f o b a K)) :: sbH (22 + fr) f.Values.length (inKA f o b a K)⟩ := by
 have hz := hC.e.siz
 have hvl := hz.values
 have hop : (insAt f b a).Operands.length ≤ 6 := hz.ops b a hb ha
 have hspl : (insAt f b a).Spoils.length ≤ 20 := hz.spo b a hb ha
 have hom : (plAt o b a).length ≤ maxLen := by rw [hpl]; unfold maxLen; omega
 have hp6 : ((o.Places.getD b default).getD a default).length ≤ 6 := (show (plAt o b a).length ≤ 6 by rw [hpl]; exact hop)
 have hsm : (insAt f b a).Spoils.length ≤ maxLen := by unfold maxLen; omega
 have hNm : 22 + fr ≤ maxLen := by unfold maxLen; omega
 have hvv : ∀ q, q < (insAt f b a).Operands.length → (0 ≤ ((insAt f b a).Operands.getD q default).Value ∧ ((insAt f b a).Operands.getD q default).Value < (f.Values.length : Int)) ∧ ((insAt f b a).Operands.getD q default).Value.toNat < f.Values.length := fun q hq => by
  have h := idx_ok (hC.opv b a q hb ha hq)
  have h1 : 0 ≤ ((insAt f b a).Operands.getD q default).Value := h.1
  have h2 : ((insAt f b a).Operands.getD q default).Value < (f.Values.length : Int) := h.2
  exact ⟨⟨h1, h2⟩, by omega⟩
 refine ACallM.enter B _ _ Try.func59 rfl rfl Try.ntmps59 Try.results59 rfl ?_ fun hreal => ?_
 ·refine zi sbH_refs (zi ?_ (zi zt (zi (fun ix h => h) zt)))
  repeat' (first|exact rfl|exact zt|apply zi)
 clear hreal
 repeat (first|apply zq|apply zb|apply zk)
 apply zr;intro _
 refine AWp.freezeObj 5 rfl rfl ?_
 refine AWp.freezeObj 6 rfl rfl ?_
 repeat (first|apply zq|apply zb|apply zk)
 apply zr
 repeat' (first|exact zt|refine zi ?_ ?_|fail)
 all_goals first|exact fun _ => nn (hb)|exact fun _ => nn (ha)|skip
 intro _
 refine AWp.freezeObj 11 rfl rfl ?_
 repeat (first|apply zq|apply zb|apply zk)
 apply zr
 repeat' (first|exact zt|refine zi ?_ ?_|fail)
 all_goals first|exact fun _ => nn (hb2)|exact fun _ => nn (ha2)|skip
 intro _
 repeat (first|apply zq|apply zb|apply zk)
 apply zr
 refine zi rfl (zi (Int.natCast_nonneg _) (zi (by simp only [Int.toNat_natCast]; omega) ?_))
 intro _
 repeat (first|apply zq|apply zb|apply zk)
 apply zr;intro _
 repeat (first|apply zq|apply zb|apply zk)
 refine AWp.loop (fun i : Nat => ⟨[(2, .sl 1001 (22 + fr)), (11, .ptr (insAt f b a).cells), (12, roL 3 Plc.cells (plAt o b a)), (13, .sl 39 (plAt o b a).length), (14, .i64 i)], [(1001, sbR 1002 (22 + fr) f.Values.length), (1002, sbW (22 + fr) f.Values.length (K)), (39, rowB (plAt o b a).length (fstB (ok0 (insAt f b a) (plAt o b a) K) i))]⟩) (fun i => i ≤ (plAt o b a).length) (fun i => (plAt o b a).length - i) 0 (Nat.zero_le _) ?_ ?_
 ·refine zi ?_ (zi ⟨_, _, rfl, rfl, fun i h => rfl⟩ (zi (fun i h => zi ⟨i, h, rfl⟩ zt) (zi ⟨_, _, rfl, fun z h => ⟨h, _, _, rfl, rfl, fun i h => rfl⟩⟩ (zi (fun z h => zt) (zi (⟨_, _, rfl, rfl, fun i hi => congrArg (fun z => [AV.bool z]) fstB_zero⟩) (zi zt zt))))))
  repeat' (first|exact rfl|exact zt|apply zi)
 intro i hi
 repeat (first|apply zq|apply zb|apply zk)
 apply zr;intro _
 repeat (first|apply zq|apply zb|apply zk)
 refine AWp.cond (zi (fun h1 => ?_) (fun h1 => ?_))
 ·have hi' : i < (plAt o b a).length := Int.ofNat_lt.1 (of_decide_eq_true h1)
  have hiO : i < (insAt f b a).Operands.length := by rw [← hpl]; exact hi'
  have hP := hp i hiO
  repeat (first|apply zq|apply zb|apply zk)
  refine AWp.mono (Q := fun x t => x = .normal ∧ Sub ⟨[(2, .sl 1001 (22 + fr)), (11, .ptr (insAt f b a).cells), (12, roL 3 Plc.cells (plAt o b a)), (13, .sl 39 (plAt o b a).length), (14, .i64 i)], [(1001, sbR 1002 (22 + fr) f.Values.length), (1002, sbW (22 + fr) f.Values.length (K)), (39, rowB (plAt o b a).length (fstB (ok0 (insAt f b a) (plAt o b a) K) (i + 1)))]⟩ t) ?_ ?_
  ·refine AWp.quietP (.q 0 (.q 1 (.q 2 (.q 3 (.q 4 (.q 5 (.q 6 (.q 7 (.q 8 (.q 9 (.q 10 (.q 11 (.q 12 (.q 13 (.q 14 (.q 18 (.q 19 (.q 20 (.q 21 (.q 22 (.q 23 (.c 15 false (.q 16 (.c 17 false (.q 24 (.c 25 false (.q 26 (.q 27 (.c 28 true .fin .no))) .no)) .no)) .no)))))))))))))))))))))) [0, 1, 2, 3, 4, 5, 6, 7, 8, 9, 10, 11, 12, 13, 14, 16, 18, 19, 20, 21, 22, 23, 24, 26, 27] [] mixed (by kernel_rfl) ?_
   repeat' (first|exact zt|refine zi ?_ ?_|refine CallX.pure (c_cellOf hfr hP) rfl rfl rfl ?_|refine CallK.intro (fun _ => c_cellOf hfr hP) ?_|fail)
   all_goals first|exact fun _ => nn (hiO)|exact fun _ => nn (hi')|exact fun _ => nn (hP.lt)|exact nn (hiO)|exact nn (hi')|exact nn (hP.lt)|exact fun _ => hP.lt|exact fun _ => ⟨_, hP.lt, rfl⟩|exact fun _ => (hvv i hiO).1|exact (hvv i hiO).1|exact fun _ => (hvv i hiO).2|exact (hvv i hiO).2|exact hi'|exact fun _ => hi'|exact hP.lt|exact ⟨_, hP.lt, rfl⟩|exact fun h => h|exact gT|exact gF|exact gN|exact gA|skip
   all_goals
    intro _
    refine zi rfl ?_
    refine zi ?_ (zi ⟨_, _, rfl, rfl, fun i h => rfl⟩ (zi (fun i h => zi ⟨i, h, rfl⟩ zt) (zi ⟨_, _, rfl, fun z h => ⟨h, _, _, rfl, rfl, fun i h => rfl⟩⟩ (zi (fun z h => zt) (zi (⟨_, _, rfl, rfl, fun i hi => fstB_succ rfl⟩) (zi zt zt))))))
    repeat' (first|exact rfl|exact zt|apply zi)
  rintro _ _ ⟨rfl, hs1⟩
  refine AWp.weaken hs1 ?_
  repeat (first|apply zq|apply zb|apply zk)
  apply zr;intro _
  refine round_end (i + 1) hi' ?_ (by omega)
  refine zi ?_ (zi ⟨_, _, rfl, rfl, fun i h => rfl⟩ (zi (fun i h => zi ⟨i, h, rfl⟩ zt) (zi ⟨_, _, rfl, fun z h => ⟨h, _, _, rfl, rfl, fun i h => rfl⟩⟩ (zi (fun z h => zt) (zi ⟨_, _, rfl, rfl, fun i h => rfl⟩ (zi zt zt))))))
  repeat' (first|exact rfl|exact zt|exact congrArg (fun z => some (AV.i64 z)) (wrap_succ hi' hom)|refine zi ?_ ?_)
 have hi3 : ¬ (i : Int) < (plAt o b a).length := of_decide_eq_false h1
 obtain rfl : i = (plAt o b a).length := by omega
 clear hi hi3 h1
 apply ze
 repeat (first|apply zq|apply zb|apply zk)
 apply zr;intro _
 repeat (first|apply zq|apply zb|apply zk)
 refine AWp.loop (fun i : Nat => ⟨[(2, .sl 1001 (22 + fr)), (11, .ptr (insAt f b a).cells), (12, roL 3 Plc.cells (plAt o b a)), (13, .sl 39 (plAt o b a).length), (15, .i64 i)], [(1001, sbR 1002 (22 + fr) f.Values.length), (1002, sbW (22 + fr) f.Values.length (dwK (insAt f b a) (plAt o b a) K i)), (39, rowB (plAt o b a).length (ok0 (insAt f b a) (plAt o b a) K))]⟩) (fun i => i ≤ (plAt o b a).length) (fun i => (plAt o b a).length - i) 0 (Nat.zero_le _) ?_ ?_
 ·refine zi ?_ (zi ⟨_, _, rfl, rfl, fun i h => rfl⟩ (zi (fun i h => zi ⟨i, h, rfl⟩ zt) (zi ⟨_, _, rfl, fun z h => ⟨h, _, _, rfl, rfl, fun i h => rfl⟩⟩ (zi (fun z h => zt) (zi (⟨_, _, rfl, rfl, fun i hi => congrArg (fun z => [AV.bool z]) (fstB_lt hi).symm⟩) (zi zt zt))))))
  repeat' (first|exact rfl|exact zt|apply zi)
 intro i hi
 repeat (first|apply zq|apply zb|apply zk)
 apply zr;intro _
 repeat (first|apply zq|apply zb|apply zk)
 refine AWp.cond (zi (fun h1 => ?_) (fun h1 => ?_))
 ·have hi' : i < (plAt o b a).length := Int.ofNat_lt.1 (of_decide_eq_true h1)
  have hiO : i < (insAt f b a).Operands.length := by rw [← hpl]; exact hi'
  have hP := hp i hiO
  repeat (first|apply zq|apply zb|apply zk)
  apply zr
  repeat' (first|exact zt|refine zi ?_ ?_|fail)
  all_goals first|exact fun _ => nn ((by rw [← hpl]; exact hi'))|exact fun _ => nn (hi')|exact fun h => h|exact gT|exact gF|exact gN|exact gA|skip
  intro _
  repeat (first|apply zq|apply zb|apply zk)
  refine AWp.mono (Q := fun x t => x = .normal ∧ Sub ⟨[(2, .sl 1001 (22 + fr)), (11, .ptr (insAt f b a).cells), (12, roL 3 Plc.cells (plAt o b a)), (13, .sl 39 (plAt o b a).length), (15, .i64 i)], [(1001, sbR 1002 (22 + fr) f.Values.length), (1002, sbW (22 + fr) f.Values.length (dwK (insAt f b a) (plAt o b a) K (i + 1))), (39, rowB (plAt o b a).length (ok0 (insAt f b a) (plAt o b a) K))]⟩ t) ?_ ?_
  ·repeat (first|apply zq|apply zb|apply zk)
   refine AWp.cond (zi (fun h2 => ?_) (fun h2 => ?_))
   ·have hd : ((insAt f b a).Operands.getD i default).Kind = 2 ∧ ((insAt f b a).Operands.getD i default).Late = false := by (try simp only [bif_if, Int.toNat_natCast] at h2); grind
    rw [dwK_yes hd]
    repeat (first|apply zq|apply zb|apply zk)
    apply zr
    repeat' (first|exact zt|refine zi ?_ ?_|refine CallX.pure (c_cellOf hfr hP) rfl rfl rfl ?_|refine CallK.intro (fun _ => c_cellOf hfr hP) ?_|refine CallX.lend (m_none (V := f.Values.length) hP.lt (by omega) (dwK (insAt f b a) (plAt o b a) K i)) [(1001, 1001), (1002, 1002)] rfl (zi rfl (zi rfl zt)) rfl ?_|fail)
    all_goals first|exact fun _ => nn (hiO)|exact fun _ => nn (hi')|exact fun _ => nn (hP.lt)|exact nn (hiO)|exact nn (hi')|exact nn (hP.lt)|exact fun _ => hP.lt|exact fun _ => ⟨_, hP.lt, rfl⟩|exact fun _ => (hvv i hiO).1|exact (hvv i hiO).1|exact fun _ => (hvv i hiO).2|exact (hvv i hiO).2|exact hi'|exact fun _ => hi'|exact hP.lt|exact ⟨_, hP.lt, rfl⟩|exact fun h => h|exact gT|exact gF|exact gN|exact gA|skip
    intro _
    refine zi rfl ?_
    refine zi ?_ (zi ⟨_, _, rfl, rfl, fun i h => rfl⟩ (zi (fun i h => zi ⟨i, h, rfl⟩ zt) (zi ⟨_, _, rfl, fun z h => ⟨h, _, _, rfl, rfl, fun i h => rfl⟩⟩ (zi (fun z h => zt) (zi ⟨_, _, rfl, rfl, fun i h => rfl⟩ (zi zt zt))))))
    repeat' (first|exact rfl|exact zt|apply zi)
   ·have hd : ¬ (((insAt f b a).Operands.getD i default).Kind = 2 ∧ ((insAt f b a).Operands.getD i default).Late = false) := by (try simp only [bif_if, Int.toNat_natCast] at h2); grind
    rw [dwK_no hd]
    refine AWp.skip ?_
    refine zi rfl ?_
    refine zi ?_ (zi ⟨_, _, rfl, rfl, fun i h => rfl⟩ (zi (fun i h => zi ⟨i, h, rfl⟩ zt) (zi ⟨_, _, rfl, fun z h => ⟨h, _, _, rfl, rfl, fun i h => rfl⟩⟩ (zi (fun z h => zt) (zi ⟨_, _, rfl, rfl, fun i h => rfl⟩ (zi zt zt))))))
    repeat' (first|exact rfl|exact zt|apply zi)
  rintro _ _ ⟨rfl, hs1⟩
  refine AWp.weaken hs1 ?_
  repeat (first|apply zq|apply zb|apply zk)
  apply zr;intro _
  refine round_end (i + 1) hi' ?_ (by omega)
  refine zi ?_ (zi ⟨_, _, rfl, rfl, fun i h => rfl⟩ (zi (fun i h => zi ⟨i, h, rfl⟩ zt) (zi ⟨_, _, rfl, fun z h => ⟨h, _, _, rfl, rfl, fun i h => rfl⟩⟩ (zi (fun z h => zt) (zi ⟨_, _, rfl, rfl, fun i h => rfl⟩ (zi zt zt))))))
  repeat' (first|exact rfl|exact zt|exact congrArg (fun z => some (AV.i64 z)) (wrap_succ hi' hom)|refine zi ?_ ?_)
 have hi3 : ¬ (i : Int) < (plAt o b a).length := of_decide_eq_false h1
 obtain rfl : i = (plAt o b a).length := by omega
 clear hi hi3 h1
 apply ze
 repeat (first|apply zq|apply zb|apply zk)
 apply zr;intro _
 repeat (first|apply zq|apply zb|apply zk)
 refine AWp.loop (fun i : Nat => ⟨[(2, .sl 1001 (22 + fr)), (11, .ptr (insAt f b a).cells), (12, roL 3 Plc.cells (plAt o b a)), (13, .sl 39 (plAt o b a).length), (16, .i64 i)], [(1001, sbR 1002 (22 + fr) f.Values.length), (1002, sbW (22 + fr) f.Values.length (spK (insAt f b a).Spoils (dwK (insAt f b a) (plAt o b a) K (insAt f b a).Operands.length)  i)), (39, rowB (plAt o b a).length (ok0 (insAt f b a) (plAt o b a) K))]⟩) (fun i => i ≤ (insAt f b a).Spoils.length) (fun i => (insAt f b a).Spoils.length - i) 0 (Nat.zero_le _) ?_ ?_
 ·refine zi ?_ (zi ⟨_, _, rfl, rfl, fun i h => rfl⟩ (zi (fun i h => zi ⟨i, h, rfl⟩ zt) (zi (⟨_, _, rfl, fun z hz => ⟨hz, _, _, rfl, rfl, fun i hi => congrArg (fun z => [AV.bool (dwK (insAt f b a) (plAt o b a) K z _ i)]) hpl.symm⟩⟩) (zi (fun z h => zt) (zi ⟨_, _, rfl, rfl, fun i h => rfl⟩ (zi zt zt))))))
  repeat' (first|exact rfl|exact zt|apply zi)
 intro i hi
 repeat (first|apply zq|apply zb|apply zk)
 apply zr;intro _
 repeat (first|apply zq|apply zb|apply zk)
 refine AWp.cond (zi (fun h1 => ?_) (fun h1 => ?_))
 ·have hi' : i < (insAt f b a).Spoils.length := Int.ofNat_lt.1 (of_decide_eq_true h1)
  have hP : PlOk fr ⟨1, ((insAt f b a).Spoils.getD i default).Class, ((insAt f b a).Spoils.getD i default).N⟩ := rg_pl (hs i hi')
  have hPl : celR ((insAt f b a).Spoils.getD i default) < 22 + fr := by rw [← celF_rg]; exact hP.lt
  have hw : IntKind.i64.wrap (IntKind.i64.wrap (11 * ((insAt f b a).Spoils.getD i default).Class) + ((insAt f b a).Spoils.getD i default).N) = ((celR ((insAt f b a).Spoils.getD i default) : Nat) : Int) := by
   obtain ⟨⟨g1, g2⟩, g3, g4⟩ := hs i hi'
   rw [wrap_in (n := 11 * ((insAt f b a).Spoils.getD i default).Class) (by omega) (by omega), wrap_in (by omega) (by omega)]
   show _ = ((11 * ((insAt f b a).Spoils.getD i default).Class.toNat + ((insAt f b a).Spoils.getD i default).N.toNat : Nat) : Int)
   omega
  repeat (first|apply zq|apply zb|apply zk)
  refine AWp.quietP (.q 0 (.q 1 (.q 2 (.q 3 (.q 4 (.q 5 (.q 6 (.q 7 (.q 8 (.q 9 (.q 10 (.q 11 (.q 12 (.q 13 (.q 14 (.c 15 true .fin .no)))))))))))))))) [0, 1, 2, 3, 4, 5, 6, 7, 8, 9, 10, 11, 12, 13, 14] [] mixed (by kernel_rfl) ?_
  repeat' (first|exact zt|refine zi ?_ ?_|refine CallX.lend (m_none (V := f.Values.length) hPl (by omega) (spK (insAt f b a).Spoils (dwK (insAt f b a) (plAt o b a) K (insAt f b a).Operands.length)  i)) [(1001, 1001), (1002, 1002)] (congrArg (fun z => [AV.sl 1001 (22 + fr), AV.i64 z]) hw) (zi rfl (zi rfl zt)) rfl ?_|fail)
  all_goals first|exact fun _ => nn (hi')|skip
  intro _
  repeat (first|apply zq|apply zb|apply zk)
  apply zr;intro _
  refine round_end (i + 1) hi' ?_ (by omega)
  refine zi ?_ (zi ⟨_, _, rfl, rfl, fun i h => rfl⟩ (zi (fun i h => zi ⟨i, h, rfl⟩ zt) (zi ⟨_, _, rfl, fun z h => ⟨h, _, _, rfl, rfl, fun i h => rfl⟩⟩ (zi (fun z h => zt) (zi ⟨_, _, rfl, rfl, fun i h => rfl⟩ (zi zt zt))))))
  repeat' (first|exact rfl|exact zt|exact congrArg (fun z => some (AV.i64 z)) (wrap_succ hi' hsm)|refine zi ?_ ?_)
 have hi3 : ¬ (i : Int) < (insAt f b a).Spoils.length := of_decide_eq_false h1
 obtain rfl : i = (insAt f b a).Spoils.length := by omega
 clear hi hi3 h1
 apply ze
 repeat (first|apply zq|apply zb|apply zk)
 apply zr;intro _
 repeat (first|apply zq|apply zb|apply zk)
 refine AWp.loop (fun i : Nat => ⟨[(2, .sl 1001 (22 + fr)), (11, .ptr (insAt f b a).cells), (12, roL 3 Plc.cells (plAt o b a)), (13, .sl 39 (plAt o b a).length), (17, .i64 i)], [(1001, sbR 1002 (22 + fr) f.Values.length), (1002, sbW (22 + fr) f.Values.length (spKA f o b a K)), (39, rowB (plAt o b a).length (mixR (okA f o b a K) (ok0 (insAt f b a) (plAt o b a) K) i))]⟩) (fun i => i ≤ (plAt o b a).length) (fun i => (plAt o b a).length - i) 0 (Nat.zero_le _) ?_ ?_
 ·refine zi ?_ (zi ⟨_, _, rfl, rfl, fun i h => rfl⟩ (zi (fun i h => zi ⟨i, h, rfl⟩ zt) (zi ⟨_, _, rfl, fun z h => ⟨h, _, _, rfl, rfl, fun i h => rfl⟩⟩ (zi (fun z h => zt) (zi (⟨_, _, rfl, rfl, fun i hi => congrArg (fun z => [AV.bool z]) mixR_zero⟩) (zi zt zt))))))
  repeat' (first|exact rfl|exact zt|apply zi)
 intro i hi
 repeat (first|apply zq|apply zb|apply zk)
 apply zr;intro _
 repeat (first|apply zq|apply zb|apply zk)
 refine AWp.cond (zi (fun h1 => ?_) (fun h1 => ?_))
 ·have hi' : i < (plAt o b a).length := Int.ofNat_lt.1 (of_decide_eq_true h1)
  have hiO : i < (insAt f b a).Operands.length := by rw [← hpl]; exact hi'
  have hP := hp i hiO
  repeat (first|apply zq|apply zb|apply zk)
  apply zr
  repeat' (first|exact zt|refine zi ?_ ?_|fail)
  all_goals first|exact fun _ => nn ((by rw [← hpl]; exact hi'))|exact fun _ => nn (hi')|exact fun h => h|exact gT|exact gF|exact gN|exact gA|skip
  intro _
  repeat (first|apply zq|apply zb|apply zk)
  refine AWp.mono (Q := fun x t => x = .normal ∧ Sub ⟨[(2, .sl 1001 (22 + fr)), (11, .ptr (insAt f b a).cells), (12, roL 3 Plc.cells (plAt o b a)), (13, .sl 39 (plAt o b a).length), (17, .i64 i)], [(1001, sbR 1002 (22 + fr) f.Values.length), (1002, sbW (22 + fr) f.Values.length (spKA f o b a K)), (39, rowB (plAt o b a).length (mixR (okA f o b a K) (ok0 (insAt f b a) (plAt o b a) K) (i + 1)))]⟩ t) ?_ ?_
  ·repeat (first|apply zq|apply zb|apply zk)
   refine AWp.cond (zi (fun h2 => ?_) (fun h2 => ?_))
   ·have hd : ((insAt f b a).Operands.getD i default).Kind = 1 ∧ ((insAt f b a).Operands.getD i default).Late = true := by (try simp only [bif_if, Int.toNat_natCast] at h2); grind
    repeat (first|apply zq|apply zb|apply zk)
    refine AWp.quietP (.q 0 (.q 1 (.q 2 (.q 3 (.q 4 (.q 5 (.q 6 (.q 10 (.q 11 (.q 12 (.q 13 (.q 14 (.q 15 (.c 7 false (.q 8 (.c 9 false (.q 16 (.c 17 false (.q 18 (.c 19 true .fin .no)) .no)) .no)) .no)))))))))))))) [0, 1, 2, 3, 4, 5, 6, 8, 10, 11, 12, 13, 14, 15, 16, 18] [] mixed (by kernel_rfl) ?_
    repeat' (first|exact zt|refine zi ?_ ?_|refine CallX.pure (c_cellOf hfr hP) rfl rfl rfl ?_|refine CallK.intro (fun _ => c_cellOf hfr hP) ?_|fail)
    all_goals first|exact fun _ => nn (hiO)|exact fun _ => nn (hi')|exact fun _ => nn (hP.lt)|exact nn (hiO)|exact nn (hi')|exact nn (hP.lt)|exact fun _ => hP.lt|exact fun _ => ⟨_, hP.lt, rfl⟩|exact fun _ => (hvv i hiO).1|exact (hvv i hiO).1|exact fun _ => (hvv i hiO).2|exact (hvv i hiO).2|exact hi'|exact fun _ => hi'|exact hP.lt|exact ⟨_, hP.lt, rfl⟩|exact fun h => h|exact gT|exact gF|exact gN|exact gA|skip
    all_goals
     intro _
     refine zi rfl ?_
     refine zi ?_ (zi ⟨_, _, rfl, rfl, fun i h => rfl⟩ (zi (fun i h => zi ⟨i, h, rfl⟩ zt) (zi ⟨_, _, rfl, fun z h => ⟨h, _, _, rfl, rfl, fun i h => rfl⟩⟩ (zi (fun z h => zt) (zi (⟨_, _, rfl, rfl, fun i hi => mixR_yes (ok1_yes hd)⟩) (zi zt zt))))))
     repeat' (first|exact rfl|exact zt|apply zi)
   ·have hd : ¬ (((insAt f b a).Operands.getD i default).Kind = 1 ∧ ((insAt f b a).Operands.getD i default).Late = true) := by (try simp only [bif_if, Int.toNat_natCast] at h2); grind
    refine AWp.skip ?_
    refine zi rfl ?_
    refine zi ?_ (zi ⟨_, _, rfl, rfl, fun i h => rfl⟩ (zi (fun i h => zi ⟨i, h, rfl⟩ zt) (zi ⟨_, _, rfl, fun z h => ⟨h, _, _, rfl, rfl, fun i h => rfl⟩⟩ (zi (fun z h => zt) (zi (⟨_, _, rfl, rfl, fun i hi => mixR_no (ok1_no (hkd _ hiO) hd)⟩) (zi zt zt))))))
    repeat' (first|exact rfl|exact zt|apply zi)
  rintro _ _ ⟨rfl, hs1⟩
  refine AWp.weaken hs1 ?_
  repeat (first|apply zq|apply zb|apply zk)
  apply zr;intro _
  refine round_end (i + 1) hi' ?_ (by omega)
  refine zi ?_ (zi ⟨_, _, rfl, rfl, fun i h => rfl⟩ (zi (fun i h => zi ⟨i, h, rfl⟩ zt) (zi ⟨_, _, rfl, fun z h => ⟨h, _, _, rfl, rfl, fun i h => rfl⟩⟩ (zi (fun z h => zt) (zi ⟨_, _, rfl, rfl, fun i h => rfl⟩ (zi zt zt))))))
  repeat' (first|exact rfl|exact zt|exact congrArg (fun z => some (AV.i64 z)) (wrap_succ hi' hom)|refine zi ?_ ?_)
 have hi3 : ¬ (i : Int) < (plAt o b a).length := of_decide_eq_false h1
 obtain rfl : i = (plAt o b a).length := by omega
 clear hi hi3 h1
 apply ze
 repeat (first|apply zq|apply zb|apply zk)
 apply zr;intro _
 repeat (first|apply zq|apply zb|apply zk)
 refine AWp.loop (fun i : Nat => ⟨[(2, .sl 1001 (22 + fr)), (11, .ptr (insAt f b a).cells), (12, roL 3 Plc.cells (plAt o b a)), (13, .sl 39 (plAt o b a).length), (18, .i64 i)], [(1001, sbR 1002 (22 + fr) f.Values.length), (1002, sbW (22 + fr) f.Values.length (dfK (insAt f b a) (plAt o b a) (spKA f o b a K) i)), (39, rowB (plAt o b a).length (okA f o b a K))]⟩) (fun i => i ≤ (plAt o b a).length) (fun i => (plAt o b a).length - i) 0 (Nat.zero_le _) ?_ ?_
 ·refine zi ?_ (zi ⟨_, _, rfl, rfl, fun i h => rfl⟩ (zi (fun i h => zi ⟨i, h, rfl⟩ zt) (zi ⟨_, _, rfl, fun z h => ⟨h, _, _, rfl, rfl, fun i h => rfl⟩⟩ (zi (fun z h => zt) (zi (⟨_, _, rfl, rfl, fun i hi => congrArg (fun z => [AV.bool z]) (mixR_all hi).symm⟩) (zi zt zt))))))
  repeat' (first|exact rfl|exact zt|apply zi)
 intro i hi
 repeat (first|apply zq|apply zb|apply zk)
 apply zr;intro _
 repeat (first|apply zq|apply zb|apply zk)
 refine AWp.cond (zi (fun h1 => ?_) (fun h1 => ?_))
 ·have hi' : i < (plAt o b a).length := Int.ofNat_lt.1 (of_decide_eq_true h1)
  have hiO : i < (insAt f b a).Operands.length := by rw [← hpl]; exact hi'
  have hP := hp i hiO
  repeat (first|apply zq|apply zb|apply zk)
  apply zr
  repeat' (first|exact zt|refine zi ?_ ?_|fail)
  all_goals first|exact fun _ => nn ((by rw [← hpl]; exact hi'))|exact fun _ => nn (hi')|exact fun h => h|exact gT|exact gF|exact gN|exact gA|skip
  intro _
  repeat (first|apply zq|apply zb|apply zk)
  refine AWp.mono (Q := fun x t => x = .normal ∧ Sub ⟨[(2, .sl 1001 (22 + fr)), (11, .ptr (insAt f b a).cells), (12, roL 3 Plc.cells (plAt o b a)), (13, .sl 39 (plAt o b a).length), (18, .i64 i)], [(1001, sbR 1002 (22 + fr) f.Values.length), (1002, sbW (22 + fr) f.Values.length (dfK (insAt f b a) (plAt o b a) (spKA f o b a K) (i + 1))), (39, rowB (plAt o b a).length (okA f o b a K))]⟩ t) ?_ ?_
  ·repeat (first|apply zq|apply zb|apply zk)
   refine AWp.cond (zi (fun h2 => ?_) (fun h2 => ?_))
   ·have hd : ((insAt f b a).Operands.getD i default).Kind = 2 := by (try simp only [bif_if, Int.toNat_natCast] at h2); grind
    rw [dfK_yes hd]
    repeat (first|apply zq|apply zb|apply zk)
    apply zr;intro _
    repeat (first|apply zq|apply zb|apply zk)
    refine AWp.loop (fun c : Nat => ⟨[(2, .sl 1001 (22 + fr)), (11, .ptr (insAt f b a).cells), (12, roL 3 Plc.cells (plAt o b a)), (13, .sl 39 (plAt o b a).length), (18, .i64 i), (19, .i64 c)], [(1001, sbR 1002 (22 + fr) f.Values.length), (1002, sbW (22 + fr) f.Values.length (drK (dfK (insAt f b a) (plAt o b a) (spKA f o b a K) i) ((insAt f b a).Operands.getD i default).Value.toNat c)), (39, rowB (plAt o b a).length (okA f o b a K))]⟩) (fun c => c ≤ 22 + fr) (fun c => 22 + fr - c) 0 (Nat.zero_le _) ?_ ?_
    ·refine zi ?_ (zi ⟨_, _, rfl, rfl, fun i h => rfl⟩ (zi (fun i h => zi ⟨i, h, rfl⟩ zt) (zi (⟨_, _, rfl, fun z hz => ⟨hz, _, _, rfl, rfl, fun i hi => db_zero⟩⟩) (zi (fun z h => zt) (zi ⟨_, _, rfl, rfl, fun i h => rfl⟩ (zi zt zt))))))
     repeat' (first|exact rfl|exact zt|apply zi)
    intro c hc
    repeat (first|apply zq|apply zb|apply zk)
    apply zr;intro _
    repeat (first|apply zq|apply zb|apply zk)
    refine AWp.cond (zi (fun h3 => ?_) (fun h3 => ?_))
    ·have hc' : c < 22 + fr := Int.ofNat_lt.1 (of_decide_eq_true h3)
     repeat (first|apply zq|apply zb|apply zk)
     refine AWp.mono (Q := fun x t => x = .normal ∧ Sub ⟨[(2, .sl 1001 (22 + fr)), (11, .ptr (insAt f b a).cells), (12, roL 3 Plc.cells (plAt o b a)), (13, .sl 39 (plAt o b a).length), (18, .i64 i), (19, .i64 c)], [(1001, sbR 1002 (22 + fr) f.Values.length), (1002, sbW (22 + fr) f.Values.length (drK (dfK (insAt f b a) (plAt o b a) (spKA f o b a K) i) ((insAt f b a).Operands.getD i default).Value.toNat (c + 1))), (39, rowB (plAt o b a).length (okA f o b a K))]⟩ t) ?_ ?_
     ·refine AWp.quietP (.q 0 (.q 1 (.q 2 (.q 4 (.q 5 (.q 6 (.q 7 (.q 8 (.q 9 (.c 3 false (.q 10 (.c 11 true .fin .no)) .no)))))))))) [0, 1, 2, 4, 5, 6, 7, 8, 9, 10] [] mixed (by kernel_rfl) ?_
      repeat' (first|exact zt|refine zi ?_ ?_|refine CallX.pure (c_cellOf hfr hP) rfl rfl rfl ?_|refine CallK.intro (fun _ => c_cellOf hfr hP) ?_|fail)
      all_goals first|exact fun _ => nn (hc')|exact fun _ => hc'|exact fun _ => ⟨_, hc', rfl⟩|exact fun _ => nn (hiO)|exact fun _ => (hvv i hiO).1|exact (hvv i hiO).1|exact fun _ => (hvv i hiO).2|exact (hvv i hiO).2|skip
      all_goals
       intro _
       refine zi rfl ?_
       refine zi ?_ (zi ⟨_, _, rfl, rfl, fun i h => rfl⟩ (zi (fun i h => zi ⟨i, h, rfl⟩ zt) (zi (⟨_, _, rfl, fun z hz => ⟨hz, sub1_sel (fun e u hu => ?_) (fun e u hu => ?_)⟩⟩) (zi (fun z h => zt) (zi ⟨_, _, rfl, rfl, fun i h => rfl⟩ (zi zt zt))))))
       ·repeat' (first|exact rfl|exact zt|apply zi)
       ·obtain ⟨j, hj, rfl⟩ := hz
        obtain rfl : j = c := (List.cons.inj e).1
        exact db_same
       ·obtain ⟨j, hj, rfl⟩ := hz
        exact db_ne fun h => e (congrArg (fun x => [x]) h)
     rintro _ _ ⟨rfl, hs2⟩
     refine AWp.weaken hs2 ?_
     repeat (first|apply zq|apply zb|apply zk)
     apply zr;intro _
     refine round_end (c + 1) hc' ?_ (by omega)
     refine zi ?_ (zi ⟨_, _, rfl, rfl, fun i h => rfl⟩ (zi (fun i h => zi ⟨i, h, rfl⟩ zt) (zi ⟨_, _, rfl, fun z h => ⟨h, _, _, rfl, rfl, fun i h => rfl⟩⟩ (zi (fun z h => zt) (zi ⟨_, _, rfl, rfl, fun i h => rfl⟩ (zi zt zt))))))
     repeat' (first|exact rfl|exact zt|exact congrArg (fun z => some (AV.i64 z)) (wrap_succ hc' hNm)|refine zi ?_ ?_)
    ·have hc3 : ¬ (c : Int) < ((22 + fr : Nat) : Int) := of_decide_eq_false h3
     obtain rfl : c = 22 + fr := by omega
     apply ze
     repeat (first|apply zq|apply zb|apply zk)
     apply zr
     repeat' (first|exact zt|refine zi ?_ ?_|refine CallX.pure (c_cellOf hfr hP) rfl rfl rfl ?_|refine CallK.intro (fun _ => c_cellOf hfr hP) ?_|refine CallX.lend (m_none (V := f.Values.length) hP.lt (by omega) (drK (dfK (insAt f b a) (plAt o b a) (spKA f o b a K) i) ((insAt f b a).Operands.getD i default).Value.toNat (22 + fr))) [(1001, 1001), (1002, 1002)] rfl (zi rfl (zi rfl zt)) rfl ?_|fail)
     all_goals first|exact fun _ => nn (hiO)|exact fun _ => nn (hi')|exact fun _ => nn (hP.lt)|exact nn (hiO)|exact nn (hi')|exact nn (hP.lt)|exact fun _ => hP.lt|exact fun _ => ⟨_, hP.lt, rfl⟩|exact fun _ => (hvv i hiO).1|exact (hvv i hiO).1|exact fun _ => (hvv i hiO).2|exact (hvv i hiO).2|exact hi'|exact fun _ => hi'|exact hP.lt|exact ⟨_, hP.lt, rfl⟩|exact fun h => h|exact gT|exact gF|exact gN|exact gA|skip
     intro _
     repeat (first|apply zq|apply zb|apply zk)
     refine AWp.quietP (.q 0 (.q 1 (.q 2 (.q 3 (.q 4 (.q 8 (.q 9 (.q 10 (.q 11 (.q 12 (.q 13 (.c 5 false (.q 6 (.c 7 false (.q 14 (.c 15 true .fin .no)) .no)) .no)))))))))))) [0, 1, 2, 3, 4, 6, 8, 9, 10, 11, 12, 13, 14] [] mixed (by kernel_rfl) ?_
     repeat' (first|exact zt|refine zi ?_ ?_|refine CallX.pure (c_cellOf hfr hP) rfl rfl rfl ?_|refine CallK.intro (fun _ => c_cellOf hfr hP) ?_|fail)
     all_goals first|exact fun _ => nn (hiO)|exact fun _ => nn (hi')|exact fun _ => nn (hP.lt)|exact nn (hiO)|exact nn (hi')|exact nn (hP.lt)|exact fun _ => hP.lt|exact fun _ => ⟨_, hP.lt, rfl⟩|exact fun _ => (hvv i hiO).1|exact (hvv i hiO).1|exact fun _ => (hvv i hiO).2|exact (hvv i hiO).2|exact hi'|exact fun _ => hi'|exact hP.lt|exact ⟨_, hP.lt, rfl⟩|exact fun h => h|exact gT|exact gF|exact gN|exact gA|skip
     all_goals
      intro _
      refine zi rfl ?_
      refine zi ?_ (zi ⟨_, _, rfl, rfl, fun i h => rfl⟩ (zi (fun i h => zi ⟨i, h, rfl⟩ zt) (zi (⟨_, _, rfl, fun z hz => ⟨hz, sub1_sel (fun e u hu => ?_) (fun e u hu => ?_)⟩⟩) (zi (fun z h => zt) (zi ⟨_, _, rfl, rfl, fun i h => rfl⟩ (zi zt zt))))))
      ·repeat' (first|exact rfl|exact zt|apply zi)
      ·obtain ⟨j, hj, rfl⟩ := hz
       obtain rfl : j = celF ((plAt o b a).getD i default) := (List.cons.inj e).1
       exact mk_same
      ·obtain ⟨j, hj, rfl⟩ := hz
       exact mk_ne (fun h => e (congrArg (fun x => [x]) h)) hj
   ·have hd : ¬ ((insAt f b a).Operands.getD i default).Kind = 2 := by (try simp only [bif_if, Int.toNat_natCast] at h2); grind
    rw [dfK_no hd]
    refine AWp.skip ?_
    refine zi rfl ?_
    refine zi ?_ (zi ⟨_, _, rfl, rfl, fun i h => rfl⟩ (zi (fun i h => zi ⟨i, h, rfl⟩ zt) (zi ⟨_, _, rfl, fun z h => ⟨h, _, _, rfl, rfl, fun i h => rfl⟩⟩ (zi (fun z h => zt) (zi ⟨_, _, rfl, rfl, fun i h => rfl⟩ (zi zt zt))))))
    repeat' (first|exact rfl|exact zt|apply zi)
  rintro _ _ ⟨rfl, hs1⟩
  refine AWp.weaken hs1 ?_
  repeat (first|apply zq|apply zb|apply zk)
  apply zr;intro _
  refine round_end (i + 1) hi' ?_ (by omega)
  refine zi ?_ (zi ⟨_, _, rfl, rfl, fun i h => rfl⟩ (zi (fun i h => zi ⟨i, h, rfl⟩ zt) (zi ⟨_, _, rfl, fun z h => ⟨h, _, _, rfl, rfl, fun i h => rfl⟩⟩ (zi (fun z h => zt) (zi ⟨_, _, rfl, rfl, fun i h => rfl⟩ (zi zt zt))))))
  repeat' (first|exact rfl|exact zt|exact congrArg (fun z => some (AV.i64 z)) (wrap_succ hi' hom)|refine zi ?_ ?_)
 have hi3 : ¬ (i : Int) < (plAt o b a).length := of_decide_eq_false h1
 obtain rfl : i = (plAt o b a).length := by omega
 clear hi hi3 h1
 apply ze
 repeat (first|apply zq|apply zb|apply zk)
 apply zr;intro _
 refine AWp.ret ⟨Or.inl rfl, ?_⟩
 intro _
 refine zi (congrArg (fun n => AV.sl ⟨39, []⟩ n) hpl) (zi rfl (zi ⟨_, _, rfl, hpl, fun i hi => rfl⟩ (zi zt (zi ⟨_, _, rfl, rfl, fun i h => rfl⟩ (zi (fun i h => zi ⟨i, h, rfl⟩ zt) (zi (⟨_, _, rfl, fun z hz => ⟨hz, _, _, rfl, rfl, fun i hi => congrArg (fun z => [AV.bool (dfK (insAt f b a) (plAt o b a) (spKA f o b a K) z _ i)]) hpl.symm⟩⟩) (zi (fun z h => zt) zt)))))))
def cutR (R : Nat → Knw) (t c v : Nat) : Nat → Knw := fun b j u => R b j u && !(decide (b = t) && decide (j = c) && decide (u = v))
theorem cutR_at {R : Nat → Knw} {t c v : Nat} : cutR R t c v t c v = false := by unfold cutR; simp
theorem cutR_le {R : Nat → Knw} {t c v b j u : Nat} (h : cutR R t c v b j u = true) : R b j u = true := by
 unfold cutR at h; rw [Bool.and_eq_true] at h; exact h.1
theorem cutR_row {R : Nat → Knw} {t c v u : Nat} : [AV.bool (cutR R t c v t c u)] = if u = v then [AV.bool false] else [AV.bool (R t c u)] := by
 unfold cutR
 by_cases e : u = v
 ·subst e; simp
 ·rw [if_neg e]; simp [e]
theorem cutR_ne {R : Nat → Knw} {t c v b j u : Nat} (h : ¬ (b = t ∧ j = c)) : [AV.bool (cutR R t c v b j u)] = [AV.bool (R b j u)] := by
 unfold cutR
 have : (decide (b = t) && decide (j = c)) = false := by
  refine Bool.eq_false_iff.2 fun e => h ?_
  rw [Bool.and_eq_true, decide_eq_true_iff, decide_eq_true_iff] at e; exact e
 rw [this]; simp
structure RdI (f : Fun) (o : Oup) (N : Nat) (R0 R : Nat → Knw) (ch : Bool) : Prop where
 lo : ∀ b, b < f.Blocks.length → Le N f.Values.length (sur f o N b) (R b)
 z : ∀ c v, c < N → v < f.Values.length → R 0 c v = false
 le : ∀ b c v, b < f.Blocks.length → c < N → v < f.Values.length → R b c v = true → R0 b c v = true
 dn : ch = true → cn3 f.Blocks.length N f.Values.length R < cn3 f.Blocks.length N f.Values.length R0
 sm : ch = false → R = R0
@[reducible] def sCome (f : Fun) (o : Oup) (R0 : Nat → Knw) (b k : Nat) : Knw := alK f (edE f b k) (thK f o b (R0 b))
def RdE (f : Fun) (o : Oup) (N : Nat) (R0 : Nat → Knw) (b k : Nat) : Prop := Le N f.Values.length (R0 (edT f b k)) (sCome f o R0 b k)
def RdB (f : Fun) (o : Oup) (N : Nat) (R0 : Nat → Knw) (b : Nat) : Prop := ∀ k, k < (f.Blocks.getD b default).Edges.length → RdE f o N R0 b k
def RdC (f : Fun) (o : Oup) (R0 : Nat → Knw) (b k c : Nat) : Prop := ∀ v, v < f.Values.length → R0 (edT f b k) c v = true → sCome f o R0 b k c v = true
section
variable {f : Fun} {m : Mch} {o : Oup} {fr b k c v : Nat} {R0 R : Nat → Knw} {ch : Bool} {K0 : Knw}
theorem RdI.start (hl : ∀ b, b < f.Blocks.length → Le (22 + fr) f.Values.length (sur f o (22 + fr) b) (R b)) (hz : ∀ c v, c < 22 + fr → v < f.Values.length → R 0 c v = false) : RdI f o (22 + fr) R R false := ⟨hl, hz, fun _ _ _ _ _ _ h => h, (fun h => (by cases h)), fun _ => rfl⟩
theorem RdI.cut (hO : OutOk f m o fr) (hb : b < f.Blocks.length) (hk : k < (f.Blocks.getD b default).Edges.length) (hK : Le (22 + fr) f.Values.length (sur f o (22 + fr) b) K0) (h : RdI f o (22 + fr) R0 R ch) (hc : c < 22 + fr) (hv : v < f.Values.length) (hR : R (edT f b k) c v = true) (hn : alK f (edE f b k) (thK f o b K0) c v = false) : RdI f o (22 + fr) R0 (cutR R (edT f b k) c v) true := by
 have ht := (edT_lt (chkd_of hO.chk0) hb hk).2
 have hlo := along_lo hO hb hk hK
 have hle : cn3 f.Blocks.length (22 + fr) f.Values.length R ≤ cn3 f.Blocks.length (22 + fr) f.Values.length R0 := cn3_le h.le
 refine ⟨fun b' hb' c' v' hc' hv' hs => ?_, fun c' v' hc' hv' => ?_, fun b' c' v' h1 h2 h3 h4 => h.le b' c' v' h1 h2 h3 (cutR_le h4), fun _ => Nat.lt_of_lt_of_le (cn3_lt (fun b' c' v' _ _ _ h4 => cutR_le h4) ht hc hv cutR_at hR) hle, fun e => (by cases e)⟩
 ·have g := h.lo b' hb' c' v' hc' hv' hs
  unfold cutR
  rw [g, Bool.true_and]
  refine (congrArg Bool.not (Bool.eq_false_iff.2 fun e => ?_)).trans rfl
  rw [Bool.and_eq_true, Bool.and_eq_true, decide_eq_true_iff, decide_eq_true_iff, decide_eq_true_iff] at e
  obtain ⟨⟨rfl, rfl⟩, rfl⟩ := e
  rw [hlo c' v' hc' hv' hs] at hn; cases hn
 ·unfold cutR; rw [h.z c' v' hc' hv']; rfl
theorem RdI.keep (h : RdI f o (22 + fr) R0 R ch) (hK : ch = false → K0 = R0 b) (hn : ¬ (R (edT f b k) c v = true ∧ alK f (edE f b k) (thK f o b K0) c v = false)) : ch = false → R0 (edT f b k) c v = true → sCome f o R0 b k c v = true := fun e hr => by
 rw [hK e, h.sm e] at hn
 cases hg : sCome f o R0 b k c v with
 | true => rfl
 | false => exact absurd ⟨hr, hg⟩ hn
theorem RdI.next (h : RdI f o (22 + fr) R0 R true) : cn3 f.Blocks.length (22 + fr) f.Values.length R + (true : Bool).toNat < cn3 f.Blocks.length (22 + fr) f.Values.length R0 + (true : Bool).toNat := Nat.add_lt_add_right (h.dn rfl) _
theorem RdI.less (h : RdI f o (22 + fr) R0 R ch) : cn3 f.Blocks.length (22 + fr) f.Values.length R + ch.toNat < cn3 f.Blocks.length (22 + fr) f.Values.length R0 + (true : Bool).toNat := by
 cases ch with
 | true => exact h.next
 | false =>
  have : cn3 f.Blocks.length (22 + fr) f.Values.length R ≤ cn3 f.Blocks.length (22 + fr) f.Values.length R0 := cn3_le h.le
  exact Nat.lt_succ_of_le this
theorem RdI.post (h : RdI f o (22 + fr) R0 R false) (hd : ∀ b, b < f.Blocks.length → RdB f o (22 + fr) R0 b) : Post f o (22 + fr) R := by
 have e := h.sm rfl
 subst e
 exact ⟨h.z, fun b k hb hk => hd b hb k hk⟩
theorem post_is (hl : ∀ b, b < f.Blocks.length → Le (22 + fr) f.Values.length (sur f o (22 + fr) b) (R b)) (hp : Post f o (22 + fr) R) (hb : b < f.Blocks.length) (hc : c < 22 + fr) (hv : v < f.Values.length) : R b c v = sur f o (22 + fr) b c v := sur_eq hp (hl b hb) hc hv
def allR : Nat → Knw := fun b _ _ => decide ((0 : Int) < (b : Int))
theorem allR_lo (hO : OutOk f m o fr) : ∀ b, b < f.Blocks.length → Le (22 + fr) f.Values.length (sur f o (22 + fr) b) (allR b) := fun b hb c v hc hv hs => by
 have hp := sur_post (f := f) (o := o) hO fun b k hb hk => edgP_len hO.chk0 hb hk
 refine decide_eq_true (Int.natCast_pos.2 (Nat.pos_of_ne_zero fun e => ?_))
 subst e
 rw [hp.none c v hc hv] at hs; cases hs
end
def nwF (ps az : List Int) (R : Nat → Bool) (v : Nat) : Nat → Bool
 | 0 => bif R v then !decide ((v : Int) ∈ ps) else false
 | j + 1 => bif nwF ps az R v j then true else (bif (ps.getD j default == (v : Int)) then R (az.getD j default).toNat else false)
theorem nwF_iff {ps az : List Int} {R : Nat → Bool} {v : Nat} : ∀ j, nwF ps az R v j = true ↔ (R v = true ∧ ¬ (v : Int) ∈ ps) ∨ ∃ i, i < j ∧ ps.getD i default = (v : Int) ∧ R (az.getD i default).toNat = true
 | 0 => by
  show (bif R v then _ else _) = true ↔ _
  cases R v <;> simp
 | j + 1 => by
  have ih := nwF_iff (ps := ps) (az := az) (R := R) (v := v) j
  show (bif nwF ps az R v j then _ else _) = true ↔ _
  have hs : (∃ i, i < j + 1 ∧ ps.getD i default = (v : Int) ∧ R (az.getD i default).toNat = true) ↔ (∃ i, i < j ∧ ps.getD i default = (v : Int) ∧ R (az.getD i default).toNat = true) ∨ (ps.getD j default = (v : Int) ∧ R (az.getD j default).toNat = true) := by
   constructor
   ·rintro ⟨i, h1, h2⟩
    by_cases e : i = j
    ·subst e; exact .inr h2
    ·exact .inl ⟨i, by omega, h2⟩
   ·rintro (⟨i, h1, h2⟩ | h)
    ·exact ⟨i, by omega, h2⟩
    ·exact ⟨j, by omega, h⟩
  rw [hs, ← or_assoc, ← ih]
  cases nwF ps az R v j with
  | true => simp
  | false =>
   by_cases e : ps.getD j default = (v : Int)
   ·rw [e, beq_self_eq_true]; simp
   ·rw [beq_eq_false_iff_ne.2 e]; exact ⟨fun h => ((by cases h)), fun h => h.elim (fun h => (by cases h)) fun h => absurd h.1 e⟩
theorem nwF_all {ps az : List Int} {R : Nat → Bool} {v : Nat} (hp : ∀ j, j < ps.length → 0 ≤ ps.getD j default) : nwF ps az R v ps.length = alR ps az R v := by
 rw [Bool.eq_iff_iff, nwF_iff, alR_iff]
 have e : ∀ j, j < ps.length → ((ps.getD j default).toNat = v ↔ ps.getD j default = (v : Int)) := fun j hj => by have := hp j hj; omega
 refine or_congr (and_congr Iff.rfl ⟨fun h j hj g => h ?_, fun h g => ?_⟩) ⟨fun ⟨j, h1, h2, h3⟩ => ⟨j, h1, (e j h1).2 h2, h3⟩, fun ⟨j, h1, h2, h3⟩ => ⟨j, h1, (e j h1).1 h2, h3⟩⟩
 ·rw [← (e j hj).1 g]; exact getD_mem hj
 ·obtain ⟨i, hi, e2⟩ := List.getElem_of_mem g
  refine h i hi ((e i hi).2 ?_)
  rw [List.getD_eq_getElem?_getD, List.getElem?_eq_getElem hi]; exact e2
def bbρ (b : Nat) (nm : Nm) : Option Nm := bif Nat.beq nm.id 70 && decide (nm.ix = [b]) then some ⟨62, []⟩ else bif Nat.beq nm.id 71 && decide (nm.ix.headD 0 = b) then some ⟨63, [nm.ix.getD 1 0]⟩ else some nm
section
variable {b c j N V : Nat}
theorem bb_at : bbρ b ⟨70, [b]⟩ = some ⟨62, []⟩ := by unfold bbρ; simp [Nat.beq_refl]
theorem bb_ne (h : j ≠ b) : bbρ b ⟨70, [j]⟩ = some ⟨70, [j]⟩ := by
 unfold bbρ
 have : decide ([j] = [b]) = false := decide_eq_false fun h2 => h (by injection h2)
 simp only [this, Bool.and_false, cond_false]
 rfl
theorem bb_at2 : bbρ b ⟨71, [b, c]⟩ = some ⟨63, [c]⟩ := by
 unfold bbρ
 have : decide ([b, c].headD 0 = b) = true := decide_eq_true rfl
 show (bif Nat.beq 71 70 && _ then _ else bif Nat.beq 71 71 && decide ([b, c].headD 0 = b) then _ else _) = _
 rw [this]; rfl
theorem bb_ne2 (h : j ≠ b) : bbρ b ⟨71, [j, c]⟩ = some ⟨71, [j, c]⟩ := by
 unfold bbρ
 have : decide ([j, c].headD 0 = b) = false := decide_eq_false h
 show (bif Nat.beq 71 70 && _ then _ else bif Nat.beq 71 71 && decide ([j, c].headD 0 = b) then _ else _) = _
 rw [this]; rfl
theorem bb_row (hc : c < b + 1) : (if c < b then [AV.sl ⟨70, [c]⟩ N] else [AV.sl ⟨62, []⟩ N]) = AV.rnL (bbρ b) [.sl ⟨70, [c]⟩ N] := by
 by_cases e : c < b
 ·rw [if_pos e]; simp only [AV.rnL, AV.rn, bb_ne (show c ≠ b by omega)]
 ·rw [if_neg e, show c = b by omega]; simp only [AV.rnL, AV.rn, bb_at]
theorem bb_old {p : Nm → Prop} : ∀ a : Nm, p a → 1000 ≤ a.id → bbρ b a = some a := by
 intro a _ h
 obtain ⟨id, ix⟩ := a
 have h : 1000 ≤ id := h
 unfold bbρ
 have g1 : Nat.beq id 70 = false := by
  cases e : Nat.beq id 70 with
  | false => rfl
  | true => have := Nat.eq_of_beq_eq_true e; omega
 have g2 : Nat.beq id 71 = false := by
  cases e : Nat.beq id 71 with
  | false => rfl
  | true => have := Nat.eq_of_beq_eq_true e; omega
 simp only [g1, g2, Bool.false_and, cond_false]
theorem bb_cl {p : Nm → Prop} (h : ∀ ix, p ⟨71, ix⟩ → ∃ x y, ix = [x, y]) {a : Nm} (pa : p a) : (a = ⟨70, [b]⟩ ∧ bbρ b a = some ⟨62, []⟩) ∨ (∃ c, a = ⟨71, [b, c]⟩ ∧ bbρ b a = some ⟨63, [c]⟩) ∨ bbρ b a = some a := by
 obtain ⟨id, ix⟩ := a
 by_cases e1 : id = 70 ∧ ix = [b]
 ·obtain ⟨rfl, rfl⟩ := e1; exact .inl ⟨rfl, bb_at⟩
 by_cases e2 : id = 71
 ·subst e2
  obtain ⟨x, y, rfl⟩ := h ix pa
  by_cases e : x = b
  ·subst e; exact .inr (.inl ⟨y, rfl, bb_at2⟩)
  ·exact .inr (.inr (bb_ne2 e))
 ·refine .inr (.inr ?_)
  unfold bbρ
  have g1 : (Nat.beq id 70 && decide (ix = [b])) = false := by
   refine Bool.eq_false_iff.2 fun g => e1 ?_
   rw [Bool.and_eq_true, decide_eq_true_iff] at g
   exact ⟨Nat.eq_of_beq_eq_true g.1, g.2⟩
  have g2 : Nat.beq id 71 = false := by
   cases e : Nat.beq id 71 with
   | false => rfl
   | true => exact absurd (Nat.eq_of_beq_eq_true e) e2
  show (bif Nat.beq id 70 && decide (ix = [b]) then _ else bif Nat.beq id 71 && _ then _ else _) = _
  rw [g1, g2]; rfl
theorem bb_inj {p : Nm → Prop} (h : ∀ ix, p ⟨71, ix⟩ → ∃ x y, ix = [x, y]) (h1 : ¬ p ⟨62, []⟩) (h2 : ∀ c, ¬ p ⟨63, [c]⟩) : ∀ a a' c : Nm, p a → p a' → bbρ b a = some c → bbρ b a' = some c → a = a' := by
 intro a a' c pa pb ha hb
 rcases bb_cl (b := b) h pa with ⟨e, g⟩ | ⟨x, e, g⟩ | g <;> rcases bb_cl (b := b) h pb with ⟨e', g'⟩ | ⟨x', e', g'⟩ | g' <;> rw [g] at ha <;> rw [g'] at hb <;> injection ha with ha <;> injection hb with hb
 ·rw [e, e']
 ·rw [← ha] at hb; injection hb with hb1 hb2; cases hb1
 ·rw [← ha] at hb; subst hb; exact absurd pb h1
 ·rw [← ha] at hb; injection hb with hb1 hb2; cases hb1
 ·rw [← ha] at hb; injection hb with hb1 hb2; injection hb2 with hb2; rw [e, e', hb2]
 ·rw [← ha] at hb; subst hb; exact absurd pb (h2 _)
 ·rw [← hb] at ha; subst ha; exact absurd pa h1
 ·rw [← hb] at ha; subst ha; exact absurd pa (h2 _)
 ·rw [ha, hb]
end
@[reducible] def atB (F n N : Nat) : HO := .rows 131 1 n (fun b => [.sl ⟨F, [b]⟩ N])
set_option maxHeartbeats 16000000 in
theorem m_settled (f : Fun) (hC : Chkd f) (m : Mch) (o : Oup) (hok : Oup.ok o) {fr : Nat} (hO : OutOk f m o fr) :
  ACallM B.P 56 ⟨[f.av, o.av], [], .sl 60 f.Blocks.length, [(60, atB 70 f.Blocks.length (22 + fr)), (70, bbS 71 f.Blocks.length (22 + fr) f.Values.length), (71, bbW f.Blocks.length (22 + fr) f.Values.length (sur f o (22 + fr)))]⟩ := by
 have hz5 := hC.e.siz
 have hvl := hz5.values
 have hbl := hz5.blocks
 have hfr := hO.small
 have hNm : 22 + fr ≤ maxLen := by unfold maxLen; omega
 have hVm : f.Values.length ≤ maxLen := by unfold maxLen; omega
 have hbm : f.Blocks.length ≤ maxLen := by unfold maxLen; omega
 refine ACallM.enter B _ _ Try.func56 rfl rfl Try.ntmps56 Try.results56 rfl ?_ fun hreal => ?_
 ·refine zi zt (zi ?_ zt)
  repeat' (first|exact rfl|exact zt|apply zi)
 clear hreal
 repeat (first|apply zq|apply zb|apply zk)
 apply zr;intro _
 refine AWp.freezeObj 2 rfl rfl ?_
 refine AWp.freezeObj 3 rfl rfl ?_
 repeat (first|apply zq|apply zb|apply zk)
 apply zr;intro _
 refine AWp.adopt 5 60 131 1 rfl rfl rfl ?_
 repeat (first|apply zq|apply zb|apply zk)
 apply zr;intro _
 refine AWp.via (newρ 70) ⟨[(2, .ptr f.cells), (3, .ptr o.cells), (5, .sl 60 0), (6, .i64 (0 : Nat))], [(60, atB 70 0 (22 + fr)), (70, bbS 71 0 (22 + fr) f.Values.length), (71, bbW 0 (22 + fr) f.Values.length (allR))]⟩ ?_ ?_
 ·refine ⟨?_, ?_, newρ_inj 70 _, newρ_old (by decide) _⟩
  ·repeat' (first|exact rfl|exact zt|apply zi)
  ·exact zi (zi ⟨_, ⟨_, rfl, rfl, zt⟩, Or.inr ⟨_, rfl, fun c hc => absurd hc (Nat.not_lt_zero c)⟩⟩ (fun q hq => absurd hq (Nat.not_lt_zero q))) (zi (fun z hz => absurd hz (fun ⟨j, hj, _⟩ => Nat.not_lt_zero j hj)) (zi (fun z hz => absurd hz (fun ⟨j, _, hj, _⟩ => Nat.not_lt_zero j hj)) zt))
 repeat (first|apply zq|apply zb|apply zk)
 refine AWp.loop (fun i : Nat => ⟨[(2, .ptr f.cells), (3, .ptr o.cells), (5, .sl 60 i), (6, .i64 i)], [(60, atB 70 i (22 + fr)), (70, bbS 71 i (22 + fr) f.Values.length), (71, bbW i (22 + fr) f.Values.length (allR))]⟩) (fun i => i ≤ f.Blocks.length) (fun i => f.Blocks.length - i) 0 (Nat.zero_le _) ?_ ?_
 ·refine zi ?_ (zi ⟨_, _, rfl, rfl, fun i h => rfl⟩ (zi (fun i h => zi ⟨i, h, rfl⟩ zt) (zi ⟨_, _, rfl, fun z h => ⟨h, _, _, rfl, rfl, fun i h => rfl⟩⟩ (zi (fun z hz c hc => zi (bb_in hz hc) zt) (zi ⟨_, _, rfl, fun z h => ⟨h, _, _, rfl, rfl, fun i h => rfl⟩⟩ (zi (fun z h => zt) zt))))))
  repeat' (first|exact rfl|exact zt|apply zi)
 intro i hi
 repeat (first|apply zq|apply zb|apply zk)
 apply zr;intro _
 repeat (first|apply zq|apply zb|apply zk)
 refine AWp.cond (zi (fun h1 => ?_) (fun h1 => ?_))
 ·have hi' : i < f.Blocks.length := Int.ofNat_lt.1 (of_decide_eq_true h1)
  repeat (first|apply zq|apply zb|apply zk)
  apply zr
  repeat' (first|exact zt|refine zi ?_ ?_|refine CallX.lend (c_sureOf (N := 22 + fr) (V := f.Values.length) f o _ hfr hO.frm rfl rfl hvl) [(60, 62), (61, 63)] rfl zt rfl ?_|fail)
  all_goals first|exact rfl|exact Nat.le_refl _|(intro i hi; have e : i = 0 := (by omega); subst e; exact rfl)|(intro _ i hi; have e : i = 0 := (by omega); subst e; exact rfl)|exact fun i hi => rfl|(show (i + 1) * 24 ≤ _; omega)|skip
  intro _
  refine AWp.rename 33 60 rfl rfl ?_
  refine AWp.weaken (s' := ⟨[(2, .ptr f.cells), (3, .ptr o.cells), (5, .sl 60 (i + 1)), (6, .i64 i)], [(60, .rows 131 1 (i + 1) (fun j => if j < i then [.sl ⟨70, [j]⟩ (22 + fr)] else [.sl 62 (22 + fr)])), (62, sbR 63 (22 + fr) f.Values.length), (63, sbW (22 + fr) f.Values.length (allR i)), (70, bbS 71 i (22 + fr) f.Values.length), (71, bbW i (22 + fr) f.Values.length (allR))]⟩) ?_ ?_
  ·refine zi ?_ (zi (⟨_, _, rfl, rfl, fun q hq => sb_snoc (G := fun j => [.sl ⟨70, [j]⟩ (22 + fr)]) hq rfl rfl⟩) (zi ((fun q hq => ?_)) (zi ⟨_, _, rfl, rfl, fun i h => rfl⟩ (zi (fun i h => zi ⟨i, h, rfl⟩ zt) (zi ⟨_, _, rfl, fun z h => ⟨h, _, _, rfl, rfl, fun i h => rfl⟩⟩ (zi (fun z h => zt) (zi ⟨_, _, rfl, fun z h => ⟨h, _, _, rfl, rfl, fun i h => rfl⟩⟩ (zi (fun z hz c hc => zi (bb_in hz hc) zt) (zi ⟨_, _, rfl, fun z h => ⟨h, _, _, rfl, rfl, fun i h => rfl⟩⟩ (zi (fun z h => zt) zt))))))))))
   ·repeat' (first|exact rfl|exact zt|apply zi)
   ·by_cases e : q < i
    ·show AV.refsPL _ (if q < i then _ else _); rw [if_pos e]; exact zi ⟨q, e, rfl⟩ zt
    ·show AV.refsPL _ (if q < i then _ else _); rw [if_neg e]; exact zi rfl zt
  refine AWp.via (bbρ i) ⟨[(2, .ptr f.cells), (3, .ptr o.cells), (5, .sl 60 (i + 1)), (6, .i64 i)], [(60, atB 70 (i + 1) (22 + fr)), (70, bbS 71 (i + 1) (22 + fr) f.Values.length), (71, bbW (i + 1) (22 + fr) f.Values.length (allR))]⟩ ?_ ?_
  ·refine ⟨?_, ?_, bb_inj (fun ix h => ?_) (fun h => h) (fun c h => h), bb_old⟩
   ·repeat' (first|exact rfl|exact zt|apply zi)
   ·refine zi (zi ⟨_, ⟨_, rfl, rfl, zt⟩, Or.inl ⟨_, rfl, fun c hc => bb_row hc⟩⟩ (fun q hq => zi ⟨q, hq, rfl⟩ zt)) (zi (fun z hz => zi ?_ (fun c hc => zi (bb_in hz hc) zt)) (zi (fun z hz => zi ?_ zt) zt))
    ·obtain ⟨j, hj, rfl⟩ := hz
     unfold viaO
     by_cases e : j = i
     ·subst e
      rw [bb_at]
      refine ⟨_, ⟨_, rfl, rfl, zt⟩, Or.inl ⟨_, rfl, fun c hc => ?_⟩⟩
      show [AV.sl ⟨63, [c]⟩ f.Values.length] = AV.rnL (bbρ j) [.sl ⟨71, [j, c]⟩ f.Values.length]
      simp only [AV.rnL, AV.rn, bb_at2]
     ·rw [bb_ne e]
      refine ⟨_, ⟨_, rfl, rfl, ⟨j, by omega, rfl⟩⟩, Or.inl ⟨_, rfl, fun c hc => ?_⟩⟩
      show [AV.sl ⟨71, [j, c]⟩ f.Values.length] = AV.rnL (bbρ i) [.sl ⟨71, [j, c]⟩ f.Values.length]
      simp only [AV.rnL, AV.rn, bb_ne2 e]
    ·obtain ⟨j, c, hj, hc, rfl⟩ := hz
     unfold viaO
     by_cases e : j = i
     ·subst e
      rw [bb_at2]
      exact ⟨_, ⟨_, rfl, rfl, ⟨c, hc, rfl⟩⟩, Or.inl ⟨_, rfl, fun q hq => rfl⟩⟩
     ·rw [bb_ne2 e]
      exact ⟨_, ⟨_, rfl, rfl, ⟨j, c, by omega, hc, rfl⟩⟩, Or.inl ⟨_, rfl, fun q hq => rfl⟩⟩
   ·obtain ⟨x, y, _, _, rfl⟩ := h
    exact ⟨x, y, rfl⟩
  repeat (first|apply zq|apply zb|apply zk)
  apply zr;intro _
  refine round_end (i + 1) hi' ?_ (by omega)
  refine zi ?_ (zi ⟨_, _, rfl, rfl, fun i h => rfl⟩ (zi (fun i h => zi ⟨i, h, rfl⟩ zt) (zi ⟨_, _, rfl, fun z h => ⟨h, _, _, rfl, rfl, fun i h => rfl⟩⟩ (zi (fun z hz c hc => zi (bb_in hz hc) zt) (zi ⟨_, _, rfl, fun z h => ⟨h, _, _, rfl, rfl, fun i h => rfl⟩⟩ (zi (fun z h => zt) zt))))))
  repeat' (first|exact rfl|exact zt|exact congrArg (fun z => some (AV.i64 z)) (wrap_succ hi' hbm)|refine zi ?_ ?_)
 have hi3 : ¬ (i : Int) < f.Blocks.length := of_decide_eq_false h1
 obtain rfl : i = f.Blocks.length := by omega
 clear hi hi3 h1
 apply ze
 repeat (first|apply zq|apply zb|apply zk)
 apply zr;intro _
 repeat (first|apply zq|apply zb|apply zk)
 refine AWp.loop (fun s : (Nat → Knw) × Bool => ⟨[(2, .ptr f.cells), (3, .ptr o.cells), (5, .sl 60 f.Blocks.length), (7, .bool s.2)], [(60, atB 70 f.Blocks.length (22 + fr)), (70, bbS 71 f.Blocks.length (22 + fr) f.Values.length), (71, bbW f.Blocks.length (22 + fr) f.Values.length (s.1))]⟩) (fun s => (∀ b, b < f.Blocks.length → Le (22 + fr) f.Values.length (sur f o (22 + fr) b) (s.1 b)) ∧ (∀ c v, c < 22 + fr → v < f.Values.length → s.1 0 c v = false) ∧ (s.2 = false → Post f o (22 + fr) s.1)) (fun s => cn3 f.Blocks.length (22 + fr) f.Values.length s.1 + s.2.toNat) (allR, true) ⟨allR_lo hO, fun c v hc hv => rfl, fun h => (by cases h)⟩ ?_ ?_
 ·refine zi ?_ (zi ⟨_, _, rfl, rfl, fun i h => rfl⟩ (zi (fun i h => zi ⟨i, h, rfl⟩ zt) (zi ⟨_, _, rfl, fun z h => ⟨h, _, _, rfl, rfl, fun i h => rfl⟩⟩ (zi (fun z hz c hc => zi (bb_in hz hc) zt) (zi ⟨_, _, rfl, fun z h => ⟨h, _, _, rfl, rfl, fun i h => rfl⟩⟩ (zi (fun z h => zt) zt))))))
  repeat' (first|exact rfl|exact zt|apply zi)
 rintro ⟨R0, ch0⟩ ⟨hlo0, hz0, hp0⟩
 repeat (first|apply zq|apply zb|apply zk)
 apply zr;intro _
 repeat (first|apply zq|apply zb|apply zk)
 refine AWp.cond (zi (fun h1 => ?_) (fun h1 => ?_))
 ·obtain rfl : ch0 = true := h1
  repeat (first|apply zq|apply zb|apply zk)
  apply zr;intro _
  repeat (first|apply zq|apply zb|apply zk)
  apply zr;intro _
  repeat (first|apply zq|apply zb|apply zk)
  refine AWp.loop (fun s : (Nat → Knw) × Bool × Nat => ⟨[(2, .ptr f.cells), (3, .ptr o.cells), (5, .sl 60 f.Blocks.length), (7, .bool s.2.1), (8, .i64 s.2.2)], [(60, atB 70 f.Blocks.length (22 + fr)), (70, bbS 71 f.Blocks.length (22 + fr) f.Values.length), (71, bbW f.Blocks.length (22 + fr) f.Values.length (s.1))]⟩) (fun s => RdI f o (22 + fr) R0 s.1 s.2.1 ∧ s.2.2 ≤ f.Blocks.length ∧ (s.2.1 = false → ∀ b', b' < s.2.2 → RdB f o (22 + fr) R0 b')) (fun s => f.Blocks.length - s.2.2) (R0, false, 0) ⟨RdI.start hlo0 hz0, Nat.zero_le _, fun _ b' h => absurd h (Nat.not_lt_zero _)⟩ ?_ ?_
  ·refine zi ?_ (zi ⟨_, _, rfl, rfl, fun i h => rfl⟩ (zi (fun i h => zi ⟨i, h, rfl⟩ zt) (zi ⟨_, _, rfl, fun z h => ⟨h, _, _, rfl, rfl, fun i h => rfl⟩⟩ (zi (fun z hz c hc => zi (bb_in hz hc) zt) (zi ⟨_, _, rfl, fun z h => ⟨h, _, _, rfl, rfl, fun i h => rfl⟩⟩ (zi (fun z h => zt) zt))))))
   repeat' (first|exact rfl|exact zt|apply zi)
  rintro ⟨R1, ch1, b⟩ ⟨hS1, hb0, hd1⟩
  repeat (first|apply zq|apply zb|apply zk)
  apply zr;intro _
  repeat (first|apply zq|apply zb|apply zk)
  refine AWp.cond (zi (fun h2 => ?_) (fun h2 => ?_))
  ·have hb : b < f.Blocks.length := Int.ofNat_lt.1 (of_decide_eq_true h2)
   have hb2 : b < o.Places.length := by rw [hO.pl]; exact hb
   have hil : (f.Blocks.getD b default).Instrs.length ≤ 40 := hz5.instrs b hb
   have him : (f.Blocks.getD b default).Instrs.length ≤ maxLen := by unfold maxLen; omega
   have hel : (f.Blocks.getD b default).Edges.length ≤ 3 := hz5.edges b hb
   have hem : (f.Blocks.getD b default).Edges.length ≤ maxLen := by unfold maxLen; omega
   repeat (first|apply zq|apply zb|apply zk)
   apply zr
   repeat' (first|exact zt|refine zi ?_ ?_|fail)
   all_goals first|exact fun _ => nn (hb)|skip
   intro _
   refine AWp.freezeObj 9 rfl rfl ?_
   repeat (first|apply zq|apply zb|apply zk)
   apply zr
   repeat' (first|exact zt|refine zi ?_ ?_|refine CallX.lend (m_sureCopyAt (N := 22 + fr) (V := f.Values.length) (n := f.Blocks.length) (by omega) (by omega) hb R1) [(1003, 70), (1004, 71), (60, 80), (61, 81)] rfl (zi rfl (zi rfl zt)) rfl ?_|fail)
   all_goals first|exact fun _ => nn (hb)|exact fun _ => hb|skip
   intro _
   repeat (first|apply zq|apply zb|apply zk)
   apply zr;intro _
   repeat (first|apply zq|apply zb|apply zk)
   refine AWp.loop (fun a : Nat => ⟨[(2, .ptr f.cells), (3, .ptr o.cells), (5, .sl 60 f.Blocks.length), (7, .bool ch1), (8, .i64 b), (9, .ptr (f.Blocks.getD b default).cells), (10, .sl 80 (22 + fr)), (11, .i64 a)], [(60, atB 70 f.Blocks.length (22 + fr)), (70, bbS 71 f.Blocks.length (22 + fr) f.Values.length), (71, bbW f.Blocks.length (22 + fr) f.Values.length (R1)), (80, sbR 81 (22 + fr) f.Values.length), (81, sbW (22 + fr) f.Values.length (thI f o b (R1 b) a))]⟩) (fun a => a ≤ (f.Blocks.getD b default).Instrs.length) (fun a => (f.Blocks.getD b default).Instrs.length - a) 0 (Nat.zero_le _) ?_ ?_
   ·refine zi ?_ (zi ⟨_, _, rfl, rfl, fun i h => rfl⟩ (zi (fun i h => zi ⟨i, h, rfl⟩ zt) (zi ⟨_, _, rfl, fun z h => ⟨h, _, _, rfl, rfl, fun i h => rfl⟩⟩ (zi (fun z hz c hc => zi (bb_in hz hc) zt) (zi ⟨_, _, rfl, fun z h => ⟨h, _, _, rfl, rfl, fun i h => rfl⟩⟩ (zi (fun z h => zt) (zi ⟨_, _, rfl, rfl, fun i h => rfl⟩ (zi (fun i h => zi ⟨i, h, rfl⟩ zt) (zi ⟨_, _, rfl, fun z h => ⟨h, _, _, rfl, rfl, fun i h => rfl⟩⟩ (zi (fun z h => zt) zt))))))))))
    repeat' (first|exact rfl|exact zt|apply zi)
   intro a ha0
   repeat (first|apply zq|apply zb|apply zk)
   apply zr;intro _
   repeat (first|apply zq|apply zb|apply zk)
   refine AWp.cond (zi (fun h3 => ?_) (fun h3 => ?_))
   ·have ha : a < (f.Blocks.getD b default).Instrs.length := Int.ofNat_lt.1 (of_decide_eq_true h3)
    have ha2 : a < (o.Places.getD b default).length := by rw [hO.row b hb]; exact ha
    repeat (first|apply zq|apply zb|apply zk)
    apply zr
    repeat' (first|exact zt|refine zi ?_ ?_|refine CallX.lend (m_movedSure (V := f.Values.length) o hok hfr (by omega) (thI f o b (R1 b) a) b a hO.mv) [(1001, 80), (1002, 81)] rfl (zi rfl (zi rfl zt)) rfl ?_|fail)
    intro _
    repeat (first|apply zq|apply zb|apply zk)
    apply zr
    repeat' (first|exact zt|refine zi ?_ ?_|refine CallX.lend (m_instrSure f hC o hfr (edKA o b a (thI f o b (R1 b) a)) b a hb ha hb2 ha2 (hO.ops b a hb ha) (fun q hq => hO.at_ b a q hb ha hq) (kind_ok hO.chk0 hb ha) (fun q hq => hO.spo b a q hb ha hq)) [(1001, 80), (1002, 81), (39, 90)] rfl (zi rfl (zi rfl zt)) rfl ?_|fail)
    intro _
    repeat (first|apply zq|apply zb|apply zk)
    apply zr;intro _
    refine round_end (a + 1) ha ?_ (by omega)
    refine zi ?_ (zi ⟨_, _, rfl, rfl, fun i h => rfl⟩ (zi (fun i h => zi ⟨i, h, rfl⟩ zt) (zi ⟨_, _, rfl, fun z h => ⟨h, _, _, rfl, rfl, fun i h => rfl⟩⟩ (zi (fun z hz c hc => zi (bb_in hz hc) zt) (zi ⟨_, _, rfl, fun z h => ⟨h, _, _, rfl, rfl, fun i h => rfl⟩⟩ (zi (fun z h => zt) (zi ⟨_, _, rfl, rfl, fun i h => rfl⟩ (zi (fun i h => zi ⟨i, h, rfl⟩ zt) (zi ⟨_, _, rfl, fun z h => ⟨h, _, _, rfl, rfl, fun i h => rfl⟩⟩ (zi (fun z h => zt) zt))))))))))
    repeat' (first|exact rfl|exact zt|exact congrArg (fun z => some (AV.i64 z)) (wrap_succ ha him)|refine zi ?_ ?_)
   have ha3 : ¬ (a : Int) < (f.Blocks.getD b default).Instrs.length := of_decide_eq_false h3
   obtain rfl : a = (f.Blocks.getD b default).Instrs.length := by omega
   apply ze
   repeat (first|apply zq|apply zb|apply zk)
   apply zr
   repeat' (first|exact zt|refine zi ?_ ?_|refine CallX.lend (m_movedSure (V := f.Values.length) o hok hfr (by omega) (thI f o b (R1 b) (f.Blocks.getD b default).Instrs.length) b (f.Blocks.getD b default).Instrs.length hO.mv) [(1001, 80), (1002, 81)] rfl (zi rfl (zi rfl zt)) rfl ?_|fail)
   intro _
   repeat (first|apply zq|apply zb|apply zk)
   apply zr;intro _
   repeat (first|apply zq|apply zb|apply zk)
   refine AWp.loop (fun s : (Nat → Knw) × Bool × Nat => ⟨[(2, .ptr f.cells), (3, .ptr o.cells), (5, .sl 60 f.Blocks.length), (7, .bool s.2.1), (8, .i64 b), (9, .ptr (f.Blocks.getD b default).cells), (10, .sl 80 (22 + fr)), (12, .i64 s.2.2)], [(60, atB 70 f.Blocks.length (22 + fr)), (70, bbS 71 f.Blocks.length (22 + fr) f.Values.length), (71, bbW f.Blocks.length (22 + fr) f.Values.length (s.1)), (80, sbR 81 (22 + fr) f.Values.length), (81, sbW (22 + fr) f.Values.length ((thK f o b (R1 b))))]⟩) (fun s => RdI f o (22 + fr) R0 s.1 s.2.1 ∧ s.2.2 ≤ (f.Blocks.getD b default).Edges.length ∧ (s.2.1 = false → ch1 = false) ∧ (s.2.1 = false → ∀ k', k' < s.2.2 → RdE f o (22 + fr) R0 b k')) (fun s => (f.Blocks.getD b default).Edges.length - s.2.2) (R1, ch1, 0) ⟨hS1, Nat.zero_le _, fun h => h, fun _ k' h => absurd h (Nat.not_lt_zero _)⟩ ?_ ?_
   ·refine zi ?_ (zi ⟨_, _, rfl, rfl, fun i h => rfl⟩ (zi (fun i h => zi ⟨i, h, rfl⟩ zt) (zi ⟨_, _, rfl, fun z h => ⟨h, _, _, rfl, rfl, fun i h => rfl⟩⟩ (zi (fun z hz c hc => zi (bb_in hz hc) zt) (zi ⟨_, _, rfl, fun z h => ⟨h, _, _, rfl, rfl, fun i h => rfl⟩⟩ (zi (fun z h => zt) (zi ⟨_, _, rfl, rfl, fun i h => rfl⟩ (zi (fun i h => zi ⟨i, h, rfl⟩ zt) (zi ⟨_, _, rfl, fun z h => ⟨h, _, _, rfl, rfl, fun i h => rfl⟩⟩ (zi (fun z h => zt) zt))))))))))
    repeat' (first|exact rfl|exact zt|apply zi)
   rintro ⟨R2, ch2, k⟩ ⟨hS2, hk0, hc2, hd2⟩
   repeat (first|apply zq|apply zb|apply zk)
   apply zr;intro _
   repeat (first|apply zq|apply zb|apply zk)
   refine AWp.cond (zi (fun h4 => ?_) (fun h4 => ?_))
   ·have hk : k < (f.Blocks.getD b default).Edges.length := Int.ofNat_lt.1 (of_decide_eq_true h4)
    have hE := hC.e.edge b k hb hk
    have hE1 : 0 ≤ (edE f b k).Block ∧ (edE f b k).Block < f.Blocks.length := ⟨Int.le_of_lt hE.1, hE.2⟩
    have hT := (edT_lt hC hb hk).2
    have hpl : (edgP f (edE f b k)).length = (edE f b k).Args.length := edgP_len hO.chk0 hb hk
    have hp5 : (edgP f (edE f b k)).length ≤ 5 := hz5.params _ hT
    have hpm : (edgP f (edE f b k)).length ≤ maxLen := by unfold maxLen; omega
    have hpp : ∀ j, j < (edgP f (edE f b k)).length → 0 ≤ (edgP f (edE f b k)).getD j default := fun j hj => (param_lt hC hT j hj).1
    have haz : ∀ j, j < (edE f b k).Args.length → (0 ≤ (edE f b k).Args.getD j default ∧ (edE f b k).Args.getD j default < f.Values.length) ∧ ((edE f b k).Args.getD j default).toNat < f.Values.length := fun j hj => by
     have h := idx_ok (hC.argv b k j hb hk hj)
     have h1 : 0 ≤ (edE f b k).Args.getD j default := h.1
     have h2 : (edE f b k).Args.getD j default < (f.Values.length : Int) := h.2
     exact ⟨⟨h1, h2⟩, by omega⟩
    repeat (first|apply zq|apply zb|apply zk)
    apply zr
    repeat' (first|exact zt|refine zi ?_ ?_|fail)
    all_goals first|exact fun _ => nn (hk)|skip
    intro _
    refine AWp.freezeObj 13 rfl rfl ?_
    repeat (first|apply zq|apply zb|apply zk)
    apply zr
    repeat' (first|exact zt|refine zi ?_ ?_|fail)
    all_goals first|exact fun _ => hE1|skip
    intro _
    repeat (first|apply zq|apply zb|apply zk)
    apply zr;intro _
    repeat (first|apply zq|apply zb|apply zk)
    refine AWp.loop (fun s : (Nat → Knw) × Bool × Nat => ⟨[(2, .ptr f.cells), (3, .ptr o.cells), (5, .sl 60 f.Blocks.length), (7, .bool s.2.1), (8, .i64 b), (9, .ptr (f.Blocks.getD b default).cells), (10, .sl 80 (22 + fr)), (12, .i64 k), (13, .ptr (edE f b k).cells), (14, ints (edgP f (edE f b k))), (15, .i64 s.2.2)], [(60, atB 70 f.Blocks.length (22 + fr)), (70, bbS 71 f.Blocks.length (22 + fr) f.Values.length), (71, bbW f.Blocks.length (22 + fr) f.Values.length (s.1)), (80, sbR 81 (22 + fr) f.Values.length), (81, sbW (22 + fr) f.Values.length ((thK f o b (R1 b))))]⟩) (fun s => RdI f o (22 + fr) R0 s.1 s.2.1 ∧ s.2.2 ≤ 22 + fr ∧ (s.2.1 = false → ch2 = false) ∧ (s.2.1 = false → ∀ c', c' < s.2.2 → RdC f o R0 b k c')) (fun s => 22 + fr - s.2.2) (R2, ch2, 0) ⟨hS2, Nat.zero_le _, fun h => h, fun _ c' h => absurd h (Nat.not_lt_zero _)⟩ ?_ ?_
    ·refine zi ?_ (zi ⟨_, _, rfl, rfl, fun i h => rfl⟩ (zi (fun i h => zi ⟨i, h, rfl⟩ zt) (zi ⟨_, _, rfl, fun z h => ⟨h, _, _, rfl, rfl, fun i h => rfl⟩⟩ (zi (fun z hz c hc => zi (bb_in hz hc) zt) (zi ⟨_, _, rfl, fun z h => ⟨h, _, _, rfl, rfl, fun i h => rfl⟩⟩ (zi (fun z h => zt) (zi ⟨_, _, rfl, rfl, fun i h => rfl⟩ (zi (fun i h => zi ⟨i, h, rfl⟩ zt) (zi ⟨_, _, rfl, fun z h => ⟨h, _, _, rfl, rfl, fun i h => rfl⟩⟩ (zi (fun z h => zt) zt))))))))))
     repeat' (first|exact rfl|exact zt|apply zi)
    rintro ⟨R3, ch3, c⟩ ⟨hS3, hc0, hc3, hd3⟩
    repeat (first|apply zq|apply zb|apply zk)
    apply zr;intro _
    repeat (first|apply zq|apply zb|apply zk)
    refine AWp.cond (zi (fun h5 => ?_) (fun h5 => ?_))
    ·have hc : c < 22 + fr := Int.ofNat_lt.1 (of_decide_eq_true h5)
     repeat (first|apply zq|apply zb|apply zk)
     apply zr;intro _
     repeat (first|apply zq|apply zb|apply zk)
     refine AWp.loop (fun s : (Nat → Knw) × Bool × Nat => ⟨[(2, .ptr f.cells), (3, .ptr o.cells), (5, .sl 60 f.Blocks.length), (7, .bool s.2.1), (8, .i64 b), (9, .ptr (f.Blocks.getD b default).cells), (10, .sl 80 (22 + fr)), (12, .i64 k), (13, .ptr (edE f b k).cells), (14, ints (edgP f (edE f b k))), (15, .i64 c), (16, .i64 s.2.2)], [(60, atB 70 f.Blocks.length (22 + fr)), (70, bbS 71 f.Blocks.length (22 + fr) f.Values.length), (71, bbW f.Blocks.length (22 + fr) f.Values.length (s.1)), (80, sbR 81 (22 + fr) f.Values.length), (81, sbW (22 + fr) f.Values.length ((thK f o b (R1 b))))]⟩) (fun s => RdI f o (22 + fr) R0 s.1 s.2.1 ∧ s.2.2 ≤ f.Values.length ∧ (s.2.1 = false → ch3 = false) ∧ (s.2.1 = false → ∀ v', v' < s.2.2 → R0 (edT f b k) c v' = true → sCome f o R0 b k c v' = true)) (fun s => f.Values.length - s.2.2) (R3, ch3, 0) ⟨hS3, Nat.zero_le _, fun h => h, fun _ v' h => absurd h (Nat.not_lt_zero _)⟩ ?_ ?_
     ·refine zi ?_ (zi ⟨_, _, rfl, rfl, fun i h => rfl⟩ (zi (fun i h => zi ⟨i, h, rfl⟩ zt) (zi ⟨_, _, rfl, fun z h => ⟨h, _, _, rfl, rfl, fun i h => rfl⟩⟩ (zi (fun z hz c hc => zi (bb_in hz hc) zt) (zi ⟨_, _, rfl, fun z h => ⟨h, _, _, rfl, rfl, fun i h => rfl⟩⟩ (zi (fun z h => zt) (zi ⟨_, _, rfl, rfl, fun i h => rfl⟩ (zi (fun i h => zi ⟨i, h, rfl⟩ zt) (zi ⟨_, _, rfl, fun z h => ⟨h, _, _, rfl, rfl, fun i h => rfl⟩⟩ (zi (fun z h => zt) zt))))))))))
      repeat' (first|exact rfl|exact zt|apply zi)
     rintro ⟨R, ch, v⟩ ⟨hS, hv0, hcv, hdv⟩
     repeat (first|apply zq|apply zb|apply zk)
     apply zr;intro _
     repeat (first|apply zq|apply zb|apply zk)
     refine AWp.cond (zi (fun h6 => ?_) (fun h6 => ?_))
     ·have hv : v < f.Values.length := Int.ofNat_lt.1 (of_decide_eq_true h6)
      repeat (first|apply zq|apply zb|apply zk)
      apply zr
      repeat' (first|exact zt|refine zi ?_ ?_|refine CallX.pure (c_has (edgP f (edE f b k)) v hpm) rfl rfl rfl ?_|refine CallK.intro (fun _ => c_has (edgP f (edE f b k)) v hpm) ?_|fail)
      all_goals first|exact fun _ => nn (hc)|exact fun _ => nn (hv)|exact fun _ => hc|exact fun _ => hv|exact fun _ => ⟨_, hc, rfl⟩|exact fun h => h|exact gT|exact gF|exact gN|exact gA|skip
      intro _
      repeat (first|apply zq|apply zb|apply zk)
      apply zr;intro _
      repeat (first|apply zq|apply zb|apply zk)
      refine AWp.loop (fun j : Nat => ⟨[(2, .ptr f.cells), (3, .ptr o.cells), (5, .sl 60 f.Blocks.length), (7, .bool ch), (8, .i64 b), (9, .ptr (f.Blocks.getD b default).cells), (10, .sl 80 (22 + fr)), (12, .i64 k), (13, .ptr (edE f b k).cells), (14, ints (edgP f (edE f b k))), (15, .i64 c), (16, .i64 v), (17, .bool (nwF (edgP f (edE f b k)) (edE f b k).Args ((thK f o b (R1 b)) c) v j)), (18, .i64 j)], [(60, atB 70 f.Blocks.length (22 + fr)), (70, bbS 71 f.Blocks.length (22 + fr) f.Values.length), (71, bbW f.Blocks.length (22 + fr) f.Values.length (R)), (80, sbR 81 (22 + fr) f.Values.length), (81, sbW (22 + fr) f.Values.length ((thK f o b (R1 b))))]⟩) (fun j => j ≤ (edgP f (edE f b k)).length) (fun j => (edgP f (edE f b k)).length - j) 0 (Nat.zero_le _) ?_ ?_
      ·refine zi ?_ (zi ⟨_, _, rfl, rfl, fun i h => rfl⟩ (zi (fun i h => zi ⟨i, h, rfl⟩ zt) (zi ⟨_, _, rfl, fun z h => ⟨h, _, _, rfl, rfl, fun i h => rfl⟩⟩ (zi (fun z hz c hc => zi (bb_in hz hc) zt) (zi ⟨_, _, rfl, fun z h => ⟨h, _, _, rfl, rfl, fun i h => rfl⟩⟩ (zi (fun z h => zt) (zi ⟨_, _, rfl, rfl, fun i h => rfl⟩ (zi (fun i h => zi ⟨i, h, rfl⟩ zt) (zi ⟨_, _, rfl, fun z h => ⟨h, _, _, rfl, rfl, fun i h => rfl⟩⟩ (zi (fun z h => zt) zt))))))))))
       repeat' (first|exact rfl|exact zt|apply zi)
      intro j hj
      repeat (first|apply zq|apply zb|apply zk)
      apply zr;intro _
      repeat (first|apply zq|apply zb|apply zk)
      refine AWp.cond (zi (fun h7 => ?_) (fun h7 => ?_))
      ·have hj' : j < (edgP f (edE f b k)).length := Int.ofNat_lt.1 (of_decide_eq_true h7)
       have hja : j < (edE f b k).Args.length := by rw [← hpl]; exact hj'
       repeat (first|apply zq|apply zb|apply zk)
       refine AWp.quietP (.q 0 (.q 1 (.q 2 (.q 3 (.q 4 (.q 5 (.q 6 (.q 7 (.q 8 (.q 9 (.q 10 (.q 11 (.q 12 (.q 13 (.q 14 (.q 15 (.q 16 (.q 17 (.q 18 (.q 19 (.q 20 (.q 21 (.q 22 .fin))))))))))))))))))))))) [0, 1, 2, 3, 4, 5, 6, 7, 8, 9, 10, 11, 12, 13, 14, 15, 16, 17, 18, 19, 20, 21, 22] [80, 81] mixed (by kernel_rfl) ?_
       repeat' (first|exact zt|refine zi ?_ ?_|fail)
       all_goals first|exact fun _ => nn (hj')|exact fun _ => nn (hja)|exact fun _ => nn (hc)|exact fun _ => hc|exact fun _ => ⟨_, hc, rfl⟩|exact fun _ => (haz j hja).1|exact fun _ => (haz j hja).2|exact fun h => h|exact gT|exact gF|exact gN|exact gA|skip
       intro _
       repeat (first|apply zq|apply zb|apply zk)
       apply zr;intro _
       refine round_end (j + 1) hj' ?_ (by omega)
       refine zi ?_ (zi ⟨_, _, rfl, rfl, fun i h => rfl⟩ (zi (fun i h => zi ⟨i, h, rfl⟩ zt) (zi ⟨_, _, rfl, fun z h => ⟨h, _, _, rfl, rfl, fun i h => rfl⟩⟩ (zi (fun z hz c hc => zi (bb_in hz hc) zt) (zi ⟨_, _, rfl, fun z h => ⟨h, _, _, rfl, rfl, fun i h => rfl⟩⟩ (zi (fun z h => zt) (zi ⟨_, _, rfl, rfl, fun i h => rfl⟩ (zi (fun i h => zi ⟨i, h, rfl⟩ zt) (zi ⟨_, _, rfl, fun z h => ⟨h, _, _, rfl, rfl, fun i h => rfl⟩⟩ (zi (fun z h => zt) zt))))))))))
       repeat' (first|exact rfl|exact zt|exact congrArg (fun z => some (AV.i64 z)) (wrap_succ hj' hpm)|refine zi ?_ ?_)
      have hj3 : ¬ (j : Int) < (edgP f (edE f b k)).length := of_decide_eq_false h7
      obtain rfl : j = (edgP f (edE f b k)).length := by omega
      apply ze
      repeat (first|apply zq|apply zb|apply zk)
      apply zr
      repeat' (first|exact zt|refine zi ?_ ?_|fail)
      all_goals first|exact fun _ => hE1|exact fun _ => hT|exact fun _ => ⟨_, hT, rfl⟩|exact fun _ => ⟨_, _, hT, hc, rfl⟩|exact fun _ => nn (hc)|exact fun _ => nn (hv)|exact fun _ => hc|exact fun _ => hv|exact fun h => h|exact gT|exact gF|exact gN|exact gA|skip
      intro _
      have hnw := nwF_all (az := (edE f b k).Args) (R := thK f o b (R1 b) c) (v := v) hpp
      have hKs : Le (22 + fr) f.Values.length (sur f o (22 + fr) b) (R1 b) := hS1.lo b hb
      have hK0 : ch = false → R1 b = R0 b := fun e => by rw [show R1 = R0 from hS1.sm (hc2 (hc3 (hcv e)))]
      repeat (first|apply zq|apply zb|apply zk)
      refine AWp.mono (Q := fun x t => x = .normal ∧ ∃ R' ch', RdI f o (22 + fr) R0 R' ch' ∧ (ch' = false → ch = false) ∧ (ch' = false → R0 (edT f b k) c v = true → sCome f o R0 b k c v = true) ∧ Sub ⟨[(2, .ptr f.cells), (3, .ptr o.cells), (5, .sl 60 f.Blocks.length), (7, .bool ch'), (8, .i64 b), (9, .ptr (f.Blocks.getD b default).cells), (10, .sl 80 (22 + fr)), (12, .i64 k), (13, .ptr (edE f b k).cells), (14, ints (edgP f (edE f b k))), (15, .i64 c), (16, .i64 v)], [(60, atB 70 f.Blocks.length (22 + fr)), (70, bbS 71 f.Blocks.length (22 + fr) f.Values.length), (71, bbW f.Blocks.length (22 + fr) f.Values.length (R')), (80, sbR 81 (22 + fr) f.Values.length), (81, sbW (22 + fr) f.Values.length ((thK f o b (R1 b))))]⟩ t) ?_ ?_
      ·repeat (first|apply zq|apply zb|apply zk)
       refine AWp.cond (zi (fun h8 => ?_) (fun h8 => ?_))
       ·have h8 : (bif R (edT f b k) c v then !nwF (edgP f (edE f b k)) (edE f b k).Args (thK f o b (R1 b) c) v (edgP f (edE f b k)).length else false) = true := h8
        rw [hnw] at h8
        have h9 : R (edT f b k) c v = true ∧ alK f (edE f b k) (thK f o b (R1 b)) c v = false := by
         cases hr : R (edT f b k) c v with
         | false => rw [hr] at h8; cases h8
         | true =>
          rw [hr] at h8
          refine ⟨rfl, ?_⟩
          have h8 : (!alK f (edE f b k) (thK f o b (R1 b)) c v) = true := h8
          cases hq : alK f (edE f b k) (thK f o b (R1 b)) c v with
          | false => rfl
          | true => rw [hq] at h8; cases h8
        repeat (first|apply zq|apply zb|apply zk)
        apply zr
        repeat' (first|exact zt|refine zi ?_ ?_|fail)
        all_goals first|exact fun _ => hE1|exact fun _ => hT|exact fun _ => ⟨_, hT, rfl⟩|exact fun _ => ⟨_, _, hT, hc, rfl⟩|exact fun _ => nn (hc)|exact fun _ => nn (hv)|exact fun _ => hc|exact hv|exact fun _ => hv|skip
        intro _
        repeat (first|apply zq|apply zb|apply zk)
        apply zr;intro _
        refine zi rfl (Exists.intro (cutR R (edT f b k) c v) (Exists.intro true (zi (hS.cut hO hb hk hKs hc hv h9.1 h9.2) (zi (fun h => (by cases h)) (zi (fun h => (by cases h)) ?_)))))
        refine zi ?_ (zi ⟨_, _, rfl, rfl, fun i h => rfl⟩ (zi (fun i h => zi ⟨i, h, rfl⟩ zt) (zi ⟨_, _, rfl, fun z h => ⟨h, _, _, rfl, rfl, fun i h => rfl⟩⟩ (zi (fun z hz c hc => zi (bb_in hz hc) zt) (zi (⟨_, _, rfl, fun z hz => ⟨hz, sub1_sel (fun e u hu => ?_) (fun e u hu => ?_)⟩⟩) (zi (fun z h => zt) (zi ⟨_, _, rfl, rfl, fun i h => rfl⟩ (zi (fun i h => zi ⟨i, h, rfl⟩ zt) (zi ⟨_, _, rfl, fun z h => ⟨h, _, _, rfl, rfl, fun i h => rfl⟩⟩ (zi (fun z h => zt) zt))))))))))
        ·repeat' (first|exact rfl|exact zt|apply zi)
        ·obtain ⟨x, y, hx, hy, rfl⟩ := hz
         obtain ⟨rfl, g⟩ := List.cons.inj e
         obtain rfl := (List.cons.inj g).1
         exact cutR_row
        ·obtain ⟨x, y, hx, hy, rfl⟩ := hz
         exact cutR_ne fun h => e (show [x, y] = [edT f b k, c] from by
          have h1 : x = edT f b k := h.1
          have h2 : y = c := h.2
          rw [h1, h2])
       ·have h8 : (bif R (edT f b k) c v then !nwF (edgP f (edE f b k)) (edE f b k).Args (thK f o b (R1 b) c) v (edgP f (edE f b k)).length else false) = false := h8
        rw [hnw] at h8
        refine AWp.skip ?_
        refine zi rfl (Exists.intro R (Exists.intro ch (zi hS (zi (fun h => h) (zi (hS.keep (K0 := R1 b) hK0 (fun g => ?_)) ?_)))))
        ·have hr : R (edT f b k) c v = true := g.1
         have hq : alR (edgP f (edE f b k)) (edE f b k).Args (thK f o b (R1 b) c) v = false := g.2
         rw [hr, hq] at h8; cases h8
        ·refine zi ?_ (zi ⟨_, _, rfl, rfl, fun i h => rfl⟩ (zi (fun i h => zi ⟨i, h, rfl⟩ zt) (zi ⟨_, _, rfl, fun z h => ⟨h, _, _, rfl, rfl, fun i h => rfl⟩⟩ (zi (fun z hz c hc => zi (bb_in hz hc) zt) (zi ⟨_, _, rfl, fun z h => ⟨h, _, _, rfl, rfl, fun i h => rfl⟩⟩ (zi (fun z h => zt) (zi ⟨_, _, rfl, rfl, fun i h => rfl⟩ (zi (fun i h => zi ⟨i, h, rfl⟩ zt) (zi ⟨_, _, rfl, fun z h => ⟨h, _, _, rfl, rfl, fun i h => rfl⟩⟩ (zi (fun z h => zt) zt))))))))))
         repeat' (first|exact rfl|exact zt|apply zi)
      rintro _ _ ⟨rfl, R', ch', hS', hcc, hd', hs1⟩
      refine AWp.weaken hs1 ?_
      repeat (first|apply zq|apply zb|apply zk)
      apply zr;intro _
      refine round_end (R', ch', v + 1) ⟨hS', hv, fun e => hcv (hcc e), fun e v' hv' => ?_⟩ ?_ (by show f.Values.length - (v + 1) < f.Values.length - v; omega)
      ·by_cases ev : v' = v
       ·subst ev; exact hd' e
       ·have hv' : v' < v + 1 := hv'
        exact hdv (hcc e) v' (show v' < v by omega)
      ·refine zi ?_ (zi ⟨_, _, rfl, rfl, fun i h => rfl⟩ (zi (fun i h => zi ⟨i, h, rfl⟩ zt) (zi ⟨_, _, rfl, fun z h => ⟨h, _, _, rfl, rfl, fun i h => rfl⟩⟩ (zi (fun z hz c hc => zi (bb_in hz hc) zt) (zi ⟨_, _, rfl, fun z h => ⟨h, _, _, rfl, rfl, fun i h => rfl⟩⟩ (zi (fun z h => zt) (zi ⟨_, _, rfl, rfl, fun i h => rfl⟩ (zi (fun i h => zi ⟨i, h, rfl⟩ zt) (zi ⟨_, _, rfl, fun z h => ⟨h, _, _, rfl, rfl, fun i h => rfl⟩⟩ (zi (fun z h => zt) zt))))))))))
       repeat' (first|exact rfl|exact zt|exact congrArg (fun z => some (AV.i64 z)) (wrap_succ hv hVm)|refine zi ?_ ?_)
     have hv3 : ¬ (v : Int) < f.Values.length := of_decide_eq_false h6
     have hv1 : v ≤ f.Values.length := hv0
     obtain rfl : v = f.Values.length := by omega
     apply ze
     repeat (first|apply zq|apply zb|apply zk)
     apply zr;intro _
     refine round_end (R, ch, c + 1) ⟨hS, hc, fun e => hc3 (hcv e), fun e c' hc' => ?_⟩ ?_ (by show 22 + fr - (c + 1) < 22 + fr - c; omega)
     ·by_cases ec : c' = c
      ·subst ec; exact fun v' hv' => hdv e v' hv'
      ·have hc' : c' < c + 1 := hc'
       exact hd3 (hcv e) c' (show c' < c by omega)
     ·refine zi ?_ (zi ⟨_, _, rfl, rfl, fun i h => rfl⟩ (zi (fun i h => zi ⟨i, h, rfl⟩ zt) (zi ⟨_, _, rfl, fun z h => ⟨h, _, _, rfl, rfl, fun i h => rfl⟩⟩ (zi (fun z hz c hc => zi (bb_in hz hc) zt) (zi ⟨_, _, rfl, fun z h => ⟨h, _, _, rfl, rfl, fun i h => rfl⟩⟩ (zi (fun z h => zt) (zi ⟨_, _, rfl, rfl, fun i h => rfl⟩ (zi (fun i h => zi ⟨i, h, rfl⟩ zt) (zi ⟨_, _, rfl, fun z h => ⟨h, _, _, rfl, rfl, fun i h => rfl⟩⟩ (zi (fun z h => zt) zt))))))))))
      repeat' (first|exact rfl|exact zt|exact congrArg (fun z => some (AV.i64 z)) (wrap_succ hc hNm)|refine zi ?_ ?_)
    have hc4 : ¬ (c : Int) < ((22 + fr : Nat) : Int) := of_decide_eq_false h5
    have hc1 : c ≤ 22 + fr := hc0
    obtain rfl : c = 22 + fr := by omega
    apply ze
    repeat (first|apply zq|apply zb|apply zk)
    apply zr;intro _
    refine round_end (R3, ch3, k + 1) ⟨hS3, hk, fun e => hc2 (hc3 e), fun e k' hk' => ?_⟩ ?_ (by show (f.Blocks.getD b default).Edges.length - (k + 1) < (f.Blocks.getD b default).Edges.length - k; omega)
    ·by_cases ek : k' = k
     ·subst ek; exact fun c' v' hc' hv' hr => hd3 e c' hc' v' hv' hr
     ·have hk' : k' < k + 1 := hk'
      exact hd2 (hc3 e) k' (show k' < k by omega)
    ·refine zi ?_ (zi ⟨_, _, rfl, rfl, fun i h => rfl⟩ (zi (fun i h => zi ⟨i, h, rfl⟩ zt) (zi ⟨_, _, rfl, fun z h => ⟨h, _, _, rfl, rfl, fun i h => rfl⟩⟩ (zi (fun z hz c hc => zi (bb_in hz hc) zt) (zi ⟨_, _, rfl, fun z h => ⟨h, _, _, rfl, rfl, fun i h => rfl⟩⟩ (zi (fun z h => zt) (zi ⟨_, _, rfl, rfl, fun i h => rfl⟩ (zi (fun i h => zi ⟨i, h, rfl⟩ zt) (zi ⟨_, _, rfl, fun z h => ⟨h, _, _, rfl, rfl, fun i h => rfl⟩⟩ (zi (fun z h => zt) zt))))))))))
     repeat' (first|exact rfl|exact zt|exact congrArg (fun z => some (AV.i64 z)) (wrap_succ hk hem)|refine zi ?_ ?_)
   have hk3 : ¬ (k : Int) < (f.Blocks.getD b default).Edges.length := of_decide_eq_false h4
   have hk1 : k ≤ (f.Blocks.getD b default).Edges.length := hk0
   obtain rfl : k = (f.Blocks.getD b default).Edges.length := by omega
   apply ze
   repeat (first|apply zq|apply zb|apply zk)
   apply zr;intro _
   refine round_end (R2, ch2, b + 1) ⟨hS2, hb, fun e b' hb' => ?_⟩ ?_ (by show f.Blocks.length - (b + 1) < f.Blocks.length - b; omega)
   ·by_cases eb : b' = b
    ·subst eb; exact fun k' hk' => hd2 e k' hk'
    ·have hb' : b' < b + 1 := hb'
     exact hd1 (hc2 e) b' (show b' < b by omega)
   ·refine zi ?_ (zi ⟨_, _, rfl, rfl, fun i h => rfl⟩ (zi (fun i h => zi ⟨i, h, rfl⟩ zt) (zi ⟨_, _, rfl, fun z h => ⟨h, _, _, rfl, rfl, fun i h => rfl⟩⟩ (zi (fun z hz c hc => zi (bb_in hz hc) zt) (zi ⟨_, _, rfl, fun z h => ⟨h, _, _, rfl, rfl, fun i h => rfl⟩⟩ (zi (fun z h => zt) zt))))))
    repeat' (first|exact rfl|exact zt|exact congrArg (fun z => some (AV.i64 z)) (wrap_succ hb hbm)|refine zi ?_ ?_)
  have hb3 : ¬ (b : Int) < f.Blocks.length := of_decide_eq_false h2
  have hb1 : b ≤ f.Blocks.length := hb0
  obtain rfl : b = f.Blocks.length := by omega
  apply ze
  refine Exists.intro (R1, ch1) (zi ⟨hS1.lo, hS1.z, fun e => ?_⟩ (zi ?_ hS1.less))
  ·have e : ch1 = false := e
   subst e
   exact hS1.post fun b' hb' => hd1 rfl b' hb'
  ·refine zi ?_ (zi ⟨_, _, rfl, rfl, fun i h => rfl⟩ (zi (fun i h => zi ⟨i, h, rfl⟩ zt) (zi ⟨_, _, rfl, fun z h => ⟨h, _, _, rfl, rfl, fun i h => rfl⟩⟩ (zi (fun z hz c hc => zi (bb_in hz hc) zt) (zi ⟨_, _, rfl, fun z h => ⟨h, _, _, rfl, rfl, fun i h => rfl⟩⟩ (zi (fun z h => zt) zt))))))
   repeat' (first|exact rfl|exact zt|apply zi)
 ·obtain rfl : ch0 = false := h1
  apply ze
  repeat (first|apply zq|apply zb|apply zk)
  apply zr;intro _
  refine AWp.ret ⟨Or.inl rfl, ?_⟩
  intro _
  exact zi rfl (zi rfl (zi ⟨_, _, rfl, rfl, fun i h => rfl⟩ (zi (fun i h => zi ⟨i, h, rfl⟩ zt) (zi ⟨_, _, rfl, fun z h => ⟨h, _, _, rfl, rfl, fun i h => rfl⟩⟩ (zi (fun z hz c hc => zi (bb_in hz hc) zt) (zi (⟨_, _, rfl, fun z hz => ⟨hz, _, _, rfl, rfl, fun i hi => (by obtain ⟨b, c, hb, hc, rfl⟩ := hz; exact congrArg (fun z => [AV.bool z]) (post_is hlo0 (hp0 rfl) hb hc hi).symm)⟩⟩) (zi (fun z h => zt) zt)))))))
set_option maxHeartbeats 16000000 in
theorem c_KnownOf (f : Fun) (m : Mch) (o : Oup) (hf : Fun.ok f) (hok : Oup.ok o) {fr : Nat} (hO : OutOk f m o fr) (h0 : outF f m o = 0) :
  ACallIs B.P 22 [f.av, m.av, o.av] (.tup [knV f o (22 + fr), .i64 0]) := by
 have hc := c_OutputFault f m o hf hok
 rw [h0] at hc
 have hC := chkd_of hO.chk0
 have hz5 := hC.e.siz
 have hvl := hz5.values
 have hbl := hz5.blocks
 have hfr := hO.small
 have hbm : f.Blocks.length ≤ maxLen := by unfold maxLen; omega
 refine ACallIs.enter B _ _ Try.func22 rfl rfl Try.ntmps22 Try.results22 rfl fun hreal => ?_
 clear hreal
 repeat (first|apply zq|apply zb|apply zk)
 apply zr;intro _
 refine AWp.freezeObj 3 rfl rfl ?_
 refine AWp.freezeObj 4 rfl rfl ?_
 refine AWp.freezeObj 5 rfl rfl ?_
 repeat (first|apply zq|apply zb|apply zk)
 apply zr
 refine CallX.pure hc rfl rfl rfl ?_
 intro _
 repeat (first|apply zq|apply zb|apply zk)
 apply zr;intro _
 repeat (first|apply zq|apply zb|apply zk)
 refine AWp.cond (zi (fun h1 => ?_) (fun h1 => ?_))
 ·cases h1
 repeat (first|apply zq|apply zb|apply zk)
 apply zr
 repeat' (first|exact zt|refine zi ?_ ?_|refine CallX.lend (m_settled f hC m o hok hO) [(60, 60), (70, 70), (71, 71)] rfl zt rfl ?_|fail)
 intro _
 repeat (first|apply zq|apply zb|apply zk)
 apply zr;intro _
 refine AWp.adopt 10 92 117 1 rfl rfl rfl ?_
 repeat (first|apply zq|apply zb|apply zk)
 apply zr;intro _
 repeat (first|apply zq|apply zb|apply zk)
 refine AWp.loop (fun b : Nat => ⟨[(3, .ptr f.cells), (5, .ptr o.cells), (9, .sl 60 f.Blocks.length), (10, .sl 92 b), (11, .i64 b)], [(60, atB 70 f.Blocks.length (22 + fr)), (70, bbS 71 f.Blocks.length (22 + fr) f.Values.length), (71, bbW f.Blocks.length (22 + fr) f.Values.length (sur f o (22 + fr))), (92, .row 117 1 b (fun b => [knI f o (22 + fr) b]))]⟩) (fun b => b ≤ f.Blocks.length) (fun b => f.Blocks.length - b) 0 (Nat.zero_le _) ?_ ?_
 ·refine zi ?_ (zi ⟨_, _, rfl, rfl, fun i h => rfl⟩ (zi (fun i h => zi ⟨i, h, rfl⟩ zt) (zi ⟨_, _, rfl, fun z h => ⟨h, _, _, rfl, rfl, fun i h => rfl⟩⟩ (zi (fun z hz c hc => zi (bb_in hz hc) zt) (zi ⟨_, _, rfl, fun z h => ⟨h, _, _, rfl, rfl, fun i h => rfl⟩⟩ (zi (fun z h => zt) (zi (⟨_, _, rfl, rfl, fun i hi => absurd hi (Nat.not_lt_zero _)⟩) (zi zt zt))))))))
  repeat' (first|exact rfl|exact zt|apply zi)
 intro b hb0
 repeat (first|apply zq|apply zb|apply zk)
 apply zr;intro _
 repeat (first|apply zq|apply zb|apply zk)
 refine AWp.cond (zi (fun h2 => ?_) (fun h2 => ?_))
 ·have hb : b < f.Blocks.length := Int.ofNat_lt.1 (of_decide_eq_true h2)
  have hb2 : b < o.Places.length := by rw [hO.pl]; exact hb
  have hil : (f.Blocks.getD b default).Instrs.length ≤ 40 := hz5.instrs b hb
  have him : (f.Blocks.getD b default).Instrs.length ≤ maxLen := by unfold maxLen; omega
  repeat (first|apply zq|apply zb|apply zk)
  apply zr
  repeat' (first|exact zt|refine zi ?_ ?_|refine CallX.lend (m_sureCopyAt (N := 22 + fr) (V := f.Values.length) (n := f.Blocks.length) (by omega) (by omega) hb (sur f o (22 + fr))) [(1003, 70), (1004, 71), (60, 80), (61, 81)] rfl (zi rfl (zi rfl zt)) rfl ?_|fail)
  all_goals first|exact fun _ => nn (hb)|exact fun _ => hb|skip
  intro _
  repeat (first|apply zq|apply zb|apply zk)
  apply zr;intro _
  refine AWp.adopt 13 93 97 1 rfl rfl rfl ?_
  repeat (first|apply zq|apply zb|apply zk)
  apply zr;intro _
  repeat (first|apply zq|apply zb|apply zk)
  refine AWp.loop (fun a : Nat => ⟨[(3, .ptr f.cells), (5, .ptr o.cells), (9, .sl 60 f.Blocks.length), (10, .sl 92 b), (11, .i64 b), (12, .sl 80 (22 + fr)), (13, .sl 93 a), (14, .i64 a)], [(60, atB 70 f.Blocks.length (22 + fr)), (70, bbS 71 f.Blocks.length (22 + fr) f.Values.length), (71, bbW f.Blocks.length (22 + fr) f.Values.length (sur f o (22 + fr))), (80, sbR 81 (22 + fr) f.Values.length), (81, sbW (22 + fr) f.Values.length (thI f o b (sur f o (22 + fr) b) a)), (92, .row 117 1 b (fun b => [knI f o (22 + fr) b])), (93, .row 97 1 a (fun a => [knR f o (22 + fr) b a]))]⟩) (fun a => a ≤ (f.Blocks.getD b default).Instrs.length) (fun a => (f.Blocks.getD b default).Instrs.length - a) 0 (Nat.zero_le _) ?_ ?_
  ·refine zi ?_ (zi ⟨_, _, rfl, rfl, fun i h => rfl⟩ (zi (fun i h => zi ⟨i, h, rfl⟩ zt) (zi ⟨_, _, rfl, fun z h => ⟨h, _, _, rfl, rfl, fun i h => rfl⟩⟩ (zi (fun z hz c hc => zi (bb_in hz hc) zt) (zi ⟨_, _, rfl, fun z h => ⟨h, _, _, rfl, rfl, fun i h => rfl⟩⟩ (zi (fun z h => zt) (zi ⟨_, _, rfl, rfl, fun i h => rfl⟩ (zi (fun i h => zi ⟨i, h, rfl⟩ zt) (zi ⟨_, _, rfl, fun z h => ⟨h, _, _, rfl, rfl, fun i h => rfl⟩⟩ (zi (fun z h => zt) (zi ⟨_, _, rfl, rfl, fun i h => rfl⟩ (zi zt (zi (⟨_, _, rfl, rfl, fun i hi => absurd hi (Nat.not_lt_zero _)⟩) (zi zt zt))))))))))))))
   repeat' (first|exact rfl|exact zt|apply zi)
  intro a ha0
  repeat (first|apply zq|apply zb|apply zk)
  apply zr
  repeat' (first|exact zt|refine zi ?_ ?_|fail)
  all_goals first|exact fun _ => nn (hb)|skip
  intro _
  repeat (first|apply zq|apply zb|apply zk)
  refine AWp.cond (zi (fun h3 => ?_) (fun h3 => ?_))
  ·have ha : a < (f.Blocks.getD b default).Instrs.length := Int.ofNat_lt.1 (of_decide_eq_true h3)
   have ha2 : a < (o.Places.getD b default).length := by rw [hO.row b hb]; exact ha
   repeat (first|apply zq|apply zb|apply zk)
   apply zr
   repeat' (first|exact zt|refine zi ?_ ?_|refine CallX.lend (m_movedSure (V := f.Values.length) o hok hfr (by omega) (thI f o b (sur f o (22 + fr) b) a) b a hO.mv) [(1001, 80), (1002, 81)] rfl (zi rfl (zi rfl zt)) rfl ?_|fail)
   intro _
   repeat (first|apply zq|apply zb|apply zk)
   apply zr
   repeat' (first|exact zt|refine zi ?_ ?_|refine CallX.lend (m_instrSure f hC o hfr (knK f o (22 + fr) b a) b a hb ha hb2 ha2 (hO.ops b a hb ha) (fun q hq => hO.at_ b a q hb ha hq) (kind_ok hO.chk0 hb ha) (fun q hq => hO.spo b a q hb ha hq)) [(1001, 80), (1002, 81), (39, 66)] rfl (zi rfl (zi rfl zt)) rfl ?_|fail)
   intro _
   refine AWp.freeze 66 (fun q => [AV.bool (knB f o (22 + fr) b a q)]) rfl (fun i hi => rfl) ?_
   repeat (first|apply zq|apply zb|apply zk)
   apply zr
   repeat' refine zi ?_ ?_
   all_goals first|exact rfl|exact Nat.le_refl _|(intro i hi; have e : i = 0 := (by omega); subst e; exact rfl)|(show (a + 1) * 24 ≤ _; omega)|skip
   intro _
   refine AWp.rename 63 93 rfl rfl ?_
   repeat (first|apply zq|apply zb|apply zk)
   apply zr;intro _
   refine round_end (a + 1) ha ?_ (by omega)
   refine zi ?_ (zi ⟨_, _, rfl, rfl, fun i h => rfl⟩ (zi (fun i h => zi ⟨i, h, rfl⟩ zt) (zi ⟨_, _, rfl, fun z h => ⟨h, _, _, rfl, rfl, fun i h => rfl⟩⟩ (zi (fun z hz c hc => zi (bb_in hz hc) zt) (zi ⟨_, _, rfl, fun z h => ⟨h, _, _, rfl, rfl, fun i h => rfl⟩⟩ (zi (fun z h => zt) (zi ⟨_, _, rfl, rfl, fun i h => rfl⟩ (zi (fun i h => zi ⟨i, h, rfl⟩ zt) (zi ⟨_, _, rfl, fun z h => ⟨h, _, _, rfl, rfl, fun i h => rfl⟩⟩ (zi (fun z h => zt) (zi ⟨_, _, rfl, rfl, fun i h => rfl⟩ (zi zt (zi (⟨_, _, rfl, rfl, fun i hi => snocR (g := fun a => [knR f o (22 + fr) b a]) rfl hi⟩) (zi zt zt))))))))))))))
   repeat' (first|exact rfl|exact zt|exact congrArg (fun z => some (AV.i64 z)) (wrap_succ ha him)|refine zi ?_ ?_)
  ·have ha3 : ¬ (a : Int) < (f.Blocks.getD b default).Instrs.length := of_decide_eq_false h3
   obtain rfl : a = (f.Blocks.getD b default).Instrs.length := by omega
   apply ze
   refine AWp.freeze 93 (fun a => [knR f o (22 + fr) b a]) rfl (fun i hi => rfl) ?_
   repeat (first|apply zq|apply zb|apply zk)
   apply zr
   repeat' refine zi ?_ ?_
   all_goals first|exact rfl|exact Nat.le_refl _|(intro i hi; have e : i = 0 := (by omega); subst e; exact rfl)|(show (b + 1) * 24 ≤ _; omega)|skip
   intro _
   refine AWp.rename 67 92 rfl rfl ?_
   repeat (first|apply zq|apply zb|apply zk)
   apply zr;intro _
   refine round_end (b + 1) hb ?_ (by omega)
   refine zi ?_ (zi ⟨_, _, rfl, rfl, fun i h => rfl⟩ (zi (fun i h => zi ⟨i, h, rfl⟩ zt) (zi ⟨_, _, rfl, fun z h => ⟨h, _, _, rfl, rfl, fun i h => rfl⟩⟩ (zi (fun z hz c hc => zi (bb_in hz hc) zt) (zi ⟨_, _, rfl, fun z h => ⟨h, _, _, rfl, rfl, fun i h => rfl⟩⟩ (zi (fun z h => zt) (zi (⟨_, _, rfl, rfl, fun i hi => snocR (g := fun b => [knI f o (22 + fr) b]) rfl hi⟩) (zi zt zt))))))))
   repeat' (first|exact rfl|exact zt|exact congrArg (fun z => some (AV.i64 z)) (wrap_succ hb hbm)|refine zi ?_ ?_)
 ·have hb3 : ¬ (b : Int) < f.Blocks.length := of_decide_eq_false h2
  obtain rfl : b = f.Blocks.length := by omega
  apply ze
  refine AWp.freeze 92 (fun b => [knI f o (22 + fr) b]) rfl (fun i hi => rfl) ?_
  repeat (first|apply zq|apply zb|apply zk)
  apply zr;intro _
  refine AWp.ret ⟨Or.inl rfl, rfl, ?_⟩
  intro _
  rfl
theorem c_KnownOfNo (f : Fun) (m : Mch) (o : Oup) (hf : Fun.ok f) (hok : Oup.ok o) (h0 : outF f m o ≠ 0) :
  ACallIs B.P 22 [f.av, m.av, o.av] (.tup [nilV, .i64 (outF f m o)]) := by
 have hc := c_OutputFault f m o hf hok
 refine ACallIs.enter B _ _ Try.func22 rfl rfl Try.ntmps22 Try.results22 rfl fun hreal => ?_
 clear hreal
 repeat (first|apply zq|apply zb|apply zk)
 apply zr;intro _
 refine AWp.freezeObj 3 rfl rfl ?_
 refine AWp.freezeObj 4 rfl rfl ?_
 refine AWp.freezeObj 5 rfl rfl ?_
 repeat (first|apply zq|apply zb|apply zk)
 apply zr
 refine CallX.pure hc rfl rfl rfl ?_
 intro _
 repeat (first|apply zq|apply zb|apply zk)
 apply zr;intro _
 repeat (first|apply zq|apply zb|apply zk)
 refine AWp.cond (zi (fun h1 => ?_) (fun h1 => ?_))
 ·repeat (first|apply zq|apply zb|apply zk)
  apply zr;intro _
  refine AWp.ret ⟨Or.inl rfl, rfl, ?_⟩
  intro _
  rfl
 ·exact absurd (by simpa using h1) h0
end Go.Proofs.Ytjjgjflbhpoloaa
