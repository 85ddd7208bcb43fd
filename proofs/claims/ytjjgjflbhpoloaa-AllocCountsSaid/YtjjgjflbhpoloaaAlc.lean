/- alloc.Count and the document's CountOf: contracts. Condition: sizes. -/
import Derived.Test.YtjjgjflbhpoloaaJdg
set_option linter.unusedVariables false
set_option linter.unusedSimpArgs false
namespace Go.Proofs.Ytjjgjflbhpoloaa
open Go Go.Abs Go.RowKit Go.Abs.Gra
@[reducible] def addO (n : Int) : Int := IntKind.i64.wrap (n + 1)
def slotB (m : Mov) : Bool := bif m.From.Kind == 2 then true else m.To.Kind == 2
def cntM (l : List Mov) (c : Int × Int) : Nat → Int × Int
 | 0 => c
 | k + 1 => (addO (cntM l c k).1, if slotB (l.getD k default) = true then addO (cntM l c k).2 else (cntM l c k).2)
theorem cntM_yes {l : List Mov} {c : Int × Int} {k : Nat} (h : slotB (l.getD k default) = true) : (cntM l c (k + 1)).2 = addO (cntM l c k).2 := if_pos h
theorem cntM_no {l : List Mov} {c : Int × Int} {k : Nat} (h : slotB (l.getD k default) = false) : (cntM l c (k + 1)).2 = (cntM l c k).2 := if_neg (by rw [h]; decide)
def cntE (l : List Edt) : Nat → Int × Int
 | 0 => (0, 0)
 | i + 1 => cntM (l.getD i default).Moves (cntE l i) (l.getD i default).Moves.length
@[reducible] def cntV (o : Oup) : AV := ints [(cntE o.Edits o.Edits.length).1, (cntE o.Edits o.Edits.length).2, o.Frame]
set_option maxHeartbeats 2000000 in
theorem c_Count0 (f : Fun) (m : Mch) (o : Oup) (hok : Oup.ok o) {b a q : Int} (h : ACallIs B.P 24 [f.av, m.av, o.av] (.tup [fltV b a q 0, .i64 0])) :
  ACallIs B.P 26 [f.av, m.av, o.av] (.tup [cntV o, .i64 0]) := by
 have hlen := edits_len hok
 refine ACallIs.enter B _ _ Try.func26 rfl rfl Try.ntmps26 Try.results26 rfl fun hreal => ?_
 clear hreal
 repeat (first|apply zq|apply zb|apply zk)
 apply zr;intro _
 refine AWp.freezeObj 3 rfl rfl ?_
 refine AWp.freezeObj 4 rfl rfl ?_
 refine AWp.freezeObj 5 rfl rfl ?_
 repeat (first|apply zq|apply zb|apply zk)
 apply zr
 refine CallX.pure h rfl rfl rfl ?_
 intro _
 refine AWp.freezeObj 8 rfl rfl ?_
 repeat (first|apply zq|apply zb|apply zk)
 apply zr;intro _
 repeat (first|apply zq|apply zb|apply zk)
 refine AWp.cond (zi (fun h8 => ?_) (fun h8 => ?_))
 ·cases h8
 repeat (first|apply zq|apply zb|apply zk)
 apply zr;intro _
 repeat (first|apply zq|apply zb|apply zk)
 refine AWp.cond (zi (fun h9 => ?_) (fun h9 => ?_))
 ·cases h9
 repeat (first|apply zq|apply zb|apply zk)
 apply zr;intro _
 repeat (first|apply zq|apply zb|apply zk)
 apply zr;intro _
 repeat (first|apply zq|apply zb|apply zk)
 refine AWp.loop (fun i : Nat => ⟨[(5, .ptr o.cells), (10, (.i64 (cntE o.Edits i).1)), (11, (.i64 (cntE o.Edits i).2)), (32, roL 3 Edt.cells o.Edits), (33, .i64 o.Edits.length), (34, .i64 i)], []⟩) (fun i => i ≤ o.Edits.length) (fun i => o.Edits.length - i) 0 (Nat.zero_le _) ?_ ?_
 ·refine zi ?_ zt
  repeat' (first|exact rfl|exact zt|apply zi)
 intro i hi
 repeat (first|apply zq|apply zb|apply zk)
 apply zr;intro _
 repeat (first|apply zq|apply zb|apply zk)
 refine AWp.cond (zi (fun h1 => ?_) (fun h1 => ?_))
 ·have hi' : i < o.Edits.length := Int.ofNat_lt.1 (of_decide_eq_true h1)
  have hml := moves_len hok hi'
  have hmx : (o.Edits.getD i default).Moves.length ≤ maxLen := by unfold maxLen; omega
  repeat (first|apply zq|apply zb|apply zk)
  apply zr
  refine zi (fun _ => nn (hi')) ?_
  intro _
  refine AWp.freezeObj 13 rfl rfl ?_
  repeat (first|apply zq|apply zb|apply zk)
  apply zr;intro _
  repeat (first|apply zq|apply zb|apply zk)
  refine AWp.loop (fun k : Nat => ⟨[(5, .ptr o.cells), (10, (.i64 (cntM (o.Edits.getD i default).Moves (cntE o.Edits i) k).1)), (11, (.i64 (cntM (o.Edits.getD i default).Moves (cntE o.Edits i) k).2)), (32, roL 3 Edt.cells o.Edits), (33, .i64 o.Edits.length), (34, .i64 i), (39, roL 6 Mov.cells (o.Edits.getD i default).Moves), (40, .i64 (o.Edits.getD i default).Moves.length), (41, .i64 k)], []⟩) (fun k => k ≤ (o.Edits.getD i default).Moves.length) (fun k => (o.Edits.getD i default).Moves.length - k) 0 (Nat.zero_le _) ?_ ?_
  ·refine zi ?_ zt
   repeat' (first|exact rfl|exact zt|apply zi)
  intro k hk
  repeat (first|apply zq|apply zb|apply zk)
  apply zr;intro _
  repeat (first|apply zq|apply zb|apply zk)
  refine AWp.cond (zi (fun h2 => ?_) (fun h2 => ?_))
  ·have hk' : k < (o.Edits.getD i default).Moves.length := Int.ofNat_lt.1 (of_decide_eq_true h2)
   repeat (first|apply zq|apply zb|apply zk)
   apply zr
   refine zi (fun _ => nn (hk')) ?_
   intro _
   refine AWp.freezeObj 15 rfl rfl ?_
   repeat (first|apply zq|apply zb|apply zk)
   apply zr;intro _
   repeat (first|apply zq|apply zb|apply zk)
   apply zr
   repeat' (first|exact zt|refine zi ?_ ?_|fail)
   all_goals first|exact fun h => h|exact gT|exact gF|exact gN|exact gA|skip
   intro _
   repeat (first|apply zq|apply zb|apply zk)
   refine AWp.mono (Q := fun e t => e = .normal ∧ Sub ⟨[(5, .ptr o.cells), (10, (.i64 (cntM (o.Edits.getD i default).Moves (cntE o.Edits i) (k + 1)).1)), (11, (.i64 (cntM (o.Edits.getD i default).Moves (cntE o.Edits i) (k + 1)).2)), (32, roL 3 Edt.cells o.Edits), (33, .i64 o.Edits.length), (34, .i64 i), (39, roL 6 Mov.cells (o.Edits.getD i default).Moves), (40, .i64 (o.Edits.getD i default).Moves.length), (41, .i64 k)], []⟩ t) ?_ ?_
   ·repeat (first|apply zq|apply zb|apply zk)
    refine AWp.cond (zi (fun h3 => ?_) (fun h3 => ?_))
    ·have h3 : slotB ((o.Edits.getD i default).Moves.getD k default) = true := h3
     rw [cntM_yes h3]
     repeat (first|apply zq|apply zb|apply zk)
     apply zr;intro _
     refine zi rfl ?_
     refine zi ?_ zt
     repeat' (first|exact rfl|exact zt|apply zi)
    ·have h3 : slotB ((o.Edits.getD i default).Moves.getD k default) = false := h3
     rw [cntM_no h3]
     refine AWp.skip ?_
     refine zi rfl ?_
     refine zi ?_ zt
     repeat' (first|exact rfl|exact zt|apply zi)
   rintro _ _ ⟨rfl, hs⟩
   refine AWp.weaken hs ?_
   repeat (first|apply zq|apply zb|apply zk)
   apply zr;intro _
   refine round_end (k + 1) hk' ?_ (by omega)
   refine zi ?_ zt
   repeat' (first|exact rfl|exact zt|exact congrArg (fun z => some (AV.i64 z)) (wrap_succ hk' hmx)|refine zi ?_ ?_)
  ·have hk3 : ¬ (k : Int) < (o.Edits.getD i default).Moves.length := of_decide_eq_false h2
   obtain rfl : k = (o.Edits.getD i default).Moves.length := by omega
   apply ze
   repeat (first|apply zq|apply zb|apply zk)
   apply zr;intro _
   refine round_end (i + 1) hi' ?_ (by omega)
   refine zi ?_ zt
   repeat' (first|exact rfl|exact zt|exact congrArg (fun z => some (AV.i64 z)) (wrap_succ hi' hlen)|refine zi ?_ ?_)
 ·have hi3 : ¬ (i : Int) < o.Edits.length := of_decide_eq_false h1
  obtain rfl : i = o.Edits.length := by omega
  apply ze
  repeat (first|apply zq|apply zb|apply zk)
  apply zr;intro _
  refine AWp.freeze 65 (fun j => intC ([(cntE o.Edits o.Edits.length).1, (cntE o.Edits o.Edits.length).2, o.Frame].getD j default)) rfl (fun j hj => ?_) ?_
  ·match j, hj with
   | 0, _ => rfl
   | 1, _ => rfl
   | 2, _ => rfl
  refine AWp.ret ⟨Or.inl rfl, rfl, ?_⟩
  intro _
  rfl
set_option maxHeartbeats 2000000 in
theorem c_CountOf0 (f : Fun) (m : Mch) (o : Oup) (hok : Oup.ok o) {b a q : Int} (h : ACallIs B.P 25 [f.av, m.av, o.av] (.tup [fltV b a q 0, .i64 0])) :
  ACallIs B.P 27 [f.av, m.av, o.av] (.tup [cntV o, .i64 0]) := by
 have hlen := edits_len hok
 refine ACallIs.enter B _ _ Try.func27 rfl rfl Try.ntmps27 Try.results27 rfl fun hreal => ?_
 clear hreal
 repeat (first|apply zq|apply zb|apply zk)
 apply zr;intro _
 refine AWp.freezeObj 3 rfl rfl ?_
 refine AWp.freezeObj 4 rfl rfl ?_
 refine AWp.freezeObj 5 rfl rfl ?_
 repeat (first|apply zq|apply zb|apply zk)
 apply zr
 refine CallX.pure h rfl rfl rfl ?_
 intro _
 refine AWp.freezeObj 8 rfl rfl ?_
 repeat (first|apply zq|apply zb|apply zk)
 apply zr;intro _
 repeat (first|apply zq|apply zb|apply zk)
 refine AWp.mono (Q := fun e t => e = .normal ∧ Sub ⟨[(5, .ptr o.cells), (9, .i64 0)], []⟩ t) ?_ ?_
 ·repeat (first|apply zq|apply zb|apply zk)
  refine AWp.cond (zi (fun h8 => ?_) (fun h8 => ?_))
  ·repeat (first|apply zq|apply zb|apply zk)
   apply zr;intro _
   refine zi rfl ?_
   refine zi ?_ zt
   repeat' (first|exact rfl|exact zt|apply zi)
  ·cases h8
 rintro _ _ ⟨rfl, hs⟩
 refine AWp.weaken hs ?_
 repeat (first|apply zq|apply zb|apply zk)
 apply zr;intro _
 repeat (first|apply zq|apply zb|apply zk)
 refine AWp.cond (zi (fun h9 => ?_) (fun h9 => ?_))
 ·cases h9
 repeat (first|apply zq|apply zb|apply zk)
 apply zr;intro _
 repeat (first|apply zq|apply zb|apply zk)
 apply zr;intro _
 repeat (first|apply zq|apply zb|apply zk)
 apply zr;intro _
 repeat (first|apply zq|apply zb|apply zk)
 refine AWp.loop (fun i : Nat => ⟨[(5, .ptr o.cells), (10, (.i64 (cntE o.Edits i).1)), (11, (.i64 (cntE o.Edits i).2)), (12, .i64 i)], []⟩) (fun i => i ≤ o.Edits.length) (fun i => o.Edits.length - i) 0 (Nat.zero_le _) ?_ ?_
 ·refine zi ?_ zt
  repeat' (first|exact rfl|exact zt|apply zi)
 intro i hi
 repeat (first|apply zq|apply zb|apply zk)
 apply zr;intro _
 repeat (first|apply zq|apply zb|apply zk)
 refine AWp.cond (zi (fun h1 => ?_) (fun h1 => ?_))
 ·have hi' : i < o.Edits.length := Int.ofNat_lt.1 (of_decide_eq_true h1)
  have hml := moves_len hok hi'
  have hmx : (o.Edits.getD i default).Moves.length ≤ maxLen := by unfold maxLen; omega
  repeat (first|apply zq|apply zb|apply zk)
  apply zr;intro _
  repeat (first|apply zq|apply zb|apply zk)
  refine AWp.loop (fun k : Nat => ⟨[(5, .ptr o.cells), (10, (.i64 (cntM (o.Edits.getD i default).Moves (cntE o.Edits i) k).1)), (11, (.i64 (cntM (o.Edits.getD i default).Moves (cntE o.Edits i) k).2)), (12, .i64 i), (13, .i64 k)], []⟩) (fun k => k ≤ (o.Edits.getD i default).Moves.length) (fun k => (o.Edits.getD i default).Moves.length - k) 0 (Nat.zero_le _) ?_ ?_
  ·refine zi ?_ zt
   repeat' (first|exact rfl|exact zt|apply zi)
  intro k hk
  repeat (first|apply zq|apply zb|apply zk)
  apply zr
  repeat' (first|exact zt|refine zi ?_ ?_|fail)
  all_goals first|exact fun _ => nn (hi')|skip
  intro _
  repeat (first|apply zq|apply zb|apply zk)
  refine AWp.cond (zi (fun h2 => ?_) (fun h2 => ?_))
  ·have hk' : k < (o.Edits.getD i default).Moves.length := Int.ofNat_lt.1 (of_decide_eq_true h2)
   repeat (first|apply zq|apply zb|apply zk)
   apply zr
   repeat' (first|exact zt|refine zi ?_ ?_|fail)
   all_goals first|exact fun _ => nn (hi')|exact fun _ => nn (hk')|skip
   intro _
   refine AWp.freezeObj 14 rfl rfl ?_
   repeat (first|apply zq|apply zb|apply zk)
   apply zr;intro _
   repeat (first|apply zq|apply zb|apply zk)
   apply zr
   repeat' (first|exact zt|refine zi ?_ ?_|fail)
   all_goals first|exact fun h => h|exact gT|exact gF|exact gN|exact gA|skip
   intro _
   repeat (first|apply zq|apply zb|apply zk)
   refine AWp.mono (Q := fun e t => e = .normal ∧ Sub ⟨[(5, .ptr o.cells), (10, (.i64 (cntM (o.Edits.getD i default).Moves (cntE o.Edits i) (k + 1)).1)), (11, (.i64 (cntM (o.Edits.getD i default).Moves (cntE o.Edits i) (k + 1)).2)), (12, .i64 i), (13, .i64 k)], []⟩ t) ?_ ?_
   ·repeat (first|apply zq|apply zb|apply zk)
    refine AWp.cond (zi (fun h3 => ?_) (fun h3 => ?_))
    ·have h3 : slotB ((o.Edits.getD i default).Moves.getD k default) = true := h3
     rw [cntM_yes h3]
     repeat (first|apply zq|apply zb|apply zk)
     apply zr;intro _
     refine zi rfl ?_
     refine zi ?_ zt
     repeat' (first|exact rfl|exact zt|apply zi)
    ·have h3 : slotB ((o.Edits.getD i default).Moves.getD k default) = false := h3
     rw [cntM_no h3]
     refine AWp.skip ?_
     refine zi rfl ?_
     refine zi ?_ zt
     repeat' (first|exact rfl|exact zt|apply zi)
   rintro _ _ ⟨rfl, hs⟩
   refine AWp.weaken hs ?_
   repeat (first|apply zq|apply zb|apply zk)
   apply zr;intro _
   refine round_end (k + 1) hk' ?_ (by omega)
   refine zi ?_ zt
   repeat' (first|exact rfl|exact zt|exact congrArg (fun z => some (AV.i64 z)) (wrap_succ hk' hmx)|refine zi ?_ ?_)
  ·have hk3 : ¬ (k : Int) < (o.Edits.getD i default).Moves.length := of_decide_eq_false h2
   obtain rfl : k = (o.Edits.getD i default).Moves.length := by omega
   apply ze
   repeat (first|apply zq|apply zb|apply zk)
   apply zr;intro _
   refine round_end (i + 1) hi' ?_ (by omega)
   refine zi ?_ zt
   repeat' (first|exact rfl|exact zt|exact congrArg (fun z => some (AV.i64 z)) (wrap_succ hi' hlen)|refine zi ?_ ?_)
 ·have hi3 : ¬ (i : Int) < o.Edits.length := of_decide_eq_false h1
  obtain rfl : i = o.Edits.length := by omega
  apply ze
  repeat (first|apply zq|apply zb|apply zk)
  apply zr;intro _
  refine AWp.freeze 74 (fun j => intC ([(cntE o.Edits o.Edits.length).1, (cntE o.Edits o.Edits.length).2, o.Frame].getD j default)) rfl (fun j hj => ?_) ?_
  ·match j, hj with
   | 0, _ => rfl
   | 1, _ => rfl
   | 2, _ => rfl
  refine AWp.ret ⟨Or.inl rfl, rfl, ?_⟩
  intro _
  rfl
theorem c_CountE (f : Fun) (m : Mch) (o : Oup) {b a q c e : Int} (h : ACallIs B.P 24 [f.av, m.av, o.av] (.tup [fltV b a q c, .i64 e])) (hn : e ≠ 0) :
  ACallIs B.P 26 [f.av, m.av, o.av] (.tup [nilV, .i64 e]) := by
 refine ACallIs.enter B _ _ Try.func26 rfl rfl Try.ntmps26 Try.results26 rfl fun hreal => ?_
 clear hreal
 repeat (first|apply zq|apply zb|apply zk)
 apply zr;intro _
 refine AWp.freezeObj 3 rfl rfl ?_
 refine AWp.freezeObj 4 rfl rfl ?_
 refine AWp.freezeObj 5 rfl rfl ?_
 repeat (first|apply zq|apply zb|apply zk)
 apply zr
 refine CallX.pure h rfl rfl rfl ?_
 intro _
 refine AWp.freezeObj 8 rfl rfl ?_
 repeat (first|apply zq|apply zb|apply zk)
 apply zr;intro _
 repeat (first|apply zq|apply zb|apply zk)
 refine AWp.cond (zi (fun h8 => ?_) (fun h8 => ?_))
 ·repeat (first|apply zq|apply zb|apply zk)
  apply zr;intro _
  refine AWp.ret ⟨Or.inl rfl, rfl, ?_⟩
  intro _
  rfl
 ·exact absurd (by simpa using h8) hn
theorem c_CountC (f : Fun) (m : Mch) (o : Oup) {b a q c e : Int} (h : ACallIs B.P 24 [f.av, m.av, o.av] (.tup [fltV b a q c, .i64 0])) (hn : c ≠ 0) :
  ACallIs B.P 26 [f.av, m.av, o.av] (.tup [nilV, .i64 c]) := by
 refine ACallIs.enter B _ _ Try.func26 rfl rfl Try.ntmps26 Try.results26 rfl fun hreal => ?_
 clear hreal
 repeat (first|apply zq|apply zb|apply zk)
 apply zr;intro _
 refine AWp.freezeObj 3 rfl rfl ?_
 refine AWp.freezeObj 4 rfl rfl ?_
 refine AWp.freezeObj 5 rfl rfl ?_
 repeat (first|apply zq|apply zb|apply zk)
 apply zr
 refine CallX.pure h rfl rfl rfl ?_
 intro _
 refine AWp.freezeObj 8 rfl rfl ?_
 repeat (first|apply zq|apply zb|apply zk)
 apply zr;intro _
 repeat (first|apply zq|apply zb|apply zk)
 refine AWp.cond (zi (fun h8 => ?_) (fun h8 => ?_))
 ·cases h8
 repeat (first|apply zq|apply zb|apply zk)
 apply zr;intro _
 repeat (first|apply zq|apply zb|apply zk)
 refine AWp.cond (zi (fun h9 => ?_) (fun h9 => ?_))
 ·repeat (first|apply zq|apply zb|apply zk)
  refine AWp.quietP (.q 0 (.q 1 (.q 2 (.q 3 .fin)))) [0, 1, 2, 3] [] mixed (by kernel_rfl) ?_
  repeat' (first|exact zt|refine zi ?_ ?_|intro _)
  all_goals
   refine AWp.ret ⟨Or.inl rfl, rfl, ?_⟩
   intro _
   rfl
 ·exact absurd (by simpa using h9) hn
theorem c_CountOfE (f : Fun) (m : Mch) (o : Oup) {b a q c e : Int} (h : ACallIs B.P 25 [f.av, m.av, o.av] (.tup [fltV b a q c, .i64 e])) (hn : e ≠ 0) :
  ACallIs B.P 27 [f.av, m.av, o.av] (.tup [nilV, .i64 e]) := by
 refine ACallIs.enter B _ _ Try.func27 rfl rfl Try.ntmps27 Try.results27 rfl fun hreal => ?_
 clear hreal
 repeat (first|apply zq|apply zb|apply zk)
 apply zr;intro _
 refine AWp.freezeObj 3 rfl rfl ?_
 refine AWp.freezeObj 4 rfl rfl ?_
 refine AWp.freezeObj 5 rfl rfl ?_
 repeat (first|apply zq|apply zb|apply zk)
 apply zr
 refine CallX.pure h rfl rfl rfl ?_
 intro _
 refine AWp.freezeObj 8 rfl rfl ?_
 repeat (first|apply zq|apply zb|apply zk)
 apply zr;intro _
 repeat (first|apply zq|apply zb|apply zk)
 refine AWp.mono (Q := fun x t => x = .normal ∧ Sub ⟨[(9, .i64 e)], []⟩ t) ?_ ?_
 ·repeat (first|apply zq|apply zb|apply zk)
  refine AWp.cond (zi (fun h8 => ?_) (fun h8 => ?_))
  ·exact absurd (by simpa using h8) hn
  ·refine AWp.skip ?_
   refine zi rfl ?_
   refine zi ?_ zt
   repeat' (first|exact rfl|exact zt|apply zi)
 rintro _ _ ⟨rfl, hs⟩
 refine AWp.weaken hs ?_
 repeat (first|apply zq|apply zb|apply zk)
 apply zr;intro _
 repeat (first|apply zq|apply zb|apply zk)
 refine AWp.cond (zi (fun h9 => ?_) (fun h9 => ?_))
 ·repeat (first|apply zq|apply zb|apply zk)
  apply zr;intro _
  refine AWp.ret ⟨Or.inl rfl, rfl, ?_⟩
  intro _
  rfl
 ·exact absurd (by simpa using h9) hn
theorem c_CountOfC (f : Fun) (m : Mch) (o : Oup) {b a q c e : Int} (h : ACallIs B.P 25 [f.av, m.av, o.av] (.tup [fltV b a q c, .i64 0])) (hn : c ≠ 0) :
  ACallIs B.P 27 [f.av, m.av, o.av] (.tup [nilV, .i64 c]) := by
 refine ACallIs.enter B _ _ Try.func27 rfl rfl Try.ntmps27 Try.results27 rfl fun hreal => ?_
 clear hreal
 repeat (first|apply zq|apply zb|apply zk)
 apply zr;intro _
 refine AWp.freezeObj 3 rfl rfl ?_
 refine AWp.freezeObj 4 rfl rfl ?_
 refine AWp.freezeObj 5 rfl rfl ?_
 repeat (first|apply zq|apply zb|apply zk)
 apply zr
 refine CallX.pure h rfl rfl rfl ?_
 intro _
 refine AWp.freezeObj 8 rfl rfl ?_
 repeat (first|apply zq|apply zb|apply zk)
 apply zr;intro _
 repeat (first|apply zq|apply zb|apply zk)
 refine AWp.mono (Q := fun x t => x = .normal ∧ Sub ⟨[(9, .i64 c)], []⟩ t) ?_ ?_
 ·repeat (first|apply zq|apply zb|apply zk)
  refine AWp.cond (zi (fun h8 => ?_) (fun h8 => ?_))
  ·repeat (first|apply zq|apply zb|apply zk)
   apply zr;intro _
   refine zi rfl ?_
   refine zi ?_ zt
   repeat' (first|exact rfl|exact zt|apply zi)
  ·cases h8
 rintro _ _ ⟨rfl, hs⟩
 refine AWp.weaken hs ?_
 repeat (first|apply zq|apply zb|apply zk)
 apply zr;intro _
 repeat (first|apply zq|apply zb|apply zk)
 refine AWp.cond (zi (fun h9 => ?_) (fun h9 => ?_))
 ·repeat (first|apply zq|apply zb|apply zk)
  apply zr;intro _
  refine AWp.ret ⟨Or.inl rfl, rfl, ?_⟩
  intro _
  rfl
 ·exact absurd (by simpa using h9) hn
theorem c_sameRa (n : Nat) (g : Nat → Int) (hn : n ≤ maxLen) : ACallIs B.P 28 [.ro 1 n (fun i => intC (g i)), .ro 1 n (fun i => intC (g i))] (.bool true) := by
 refine ACallIs.enter B _ _ Try.func28 rfl rfl Try.ntmps28 Try.results28 rfl fun hreal => ?_
 clear hreal
 repeat (first|apply zq|apply zb|apply zk)
 apply zr;intro _
 repeat (first|apply zq|apply zb|apply zk)
 apply zr;intro _
 repeat (first|apply zq|apply zb|apply zk)
 refine AWp.cond (zi (fun h => ?_) (fun h => ?_))
 ·exfalso
  have h : ((n : Int) != (n : Int)) = true := h
  simp at h
 repeat (first|apply zq|apply zb|apply zk)
 apply zr;intro _
 repeat (first|apply zq|apply zb|apply zk)
 refine AWp.loop (fun k : Nat => ⟨[(0, .ro 1 n (fun i => intC (g i))), (1, .ro 1 n (fun i => intC (g i))), (5, .i64 k)], []⟩) (fun k => k ≤ n) (fun k => n - k) 0 (Nat.zero_le _) ?_ ?_
 ·repeat' (first|exact rfl|exact zt|apply zi)
 intro k hk
 repeat (first|apply zq|apply zb|apply zk)
 apply zr;intro _
 repeat (first|apply zq|apply zb|apply zk)
 refine AWp.cond (zi (fun h1 => ?_) (fun h1 => ?_))
 ·have hk' : k < n := Int.ofNat_lt.1 (of_decide_eq_true h1)
  repeat (first|apply zq|apply zb|apply zk)
  refine AWp.draw mixed (by kernel_rfl) ?_
  repeat' (first|refine zi ?_ ?_)
  all_goals first|exact (fun _ => nn (hk'))|skip
  intro _
  repeat (first|apply zq|apply zb|apply zk)
  refine AWp.cond (zi (fun h2 => ?_) (fun h2 => ?_))
  ·exfalso
   have h2 : (g k != g k) = true := h2
   simp at h2
  repeat (first|apply zq|apply zb|apply zk)
  apply zr;intro _
  exact round_end (k + 1) hk' (by repeat' (first|exact rfl|exact zt|exact congrArg (fun z => some (AV.i64 z)) (wrap_succ hk' hn)|refine zi ?_ ?_)) (by omega)
 apply ze
 repeat (first|apply zq|apply zb|apply zk)
 apply zr;intro _
 refine AWp.ret ⟨Or.inl rfl, rfl, ?_⟩
 intro _
 rfl
theorem c_sameIa (l : List Int) (hl : l.length ≤ maxLen) : ACallIs B.P 28 [ints l, ints l] (.bool true) := c_sameRa l.length (fun i => l.getD i default) hl
theorem c_sameNia : ACallIs B.P 28 [.val (.slice none 0 0), .val (.slice none 0 0)] (.bool true) := by
 refine ACallIs.enter B _ _ Try.func28 rfl rfl Try.ntmps28 Try.results28 rfl fun hreal => ?_
 clear hreal
 repeat (first|apply zq|apply zb|apply zk)
 apply zr;intro _
 repeat (first|apply zq|apply zb|apply zk)
 apply zr;intro _
 repeat (first|apply zq|apply zb|apply zk)
 refine AWp.cond (zi (fun h => ?_) (fun h => ?_))
 ·cases h
 repeat (first|apply zq|apply zb|apply zk)
 apply zr;intro _
 repeat (first|apply zq|apply zb|apply zk)
 refine AWp.loop (fun k : Nat => ⟨[(0, .val (.slice none 0 0)), (1, .val (.slice none 0 0)), (5, .i64 (0 : Nat))], []⟩) (fun k => True) (fun k => 0) 0 zt ?_ ?_
 ·repeat' (first|exact rfl|exact zt|apply zi)
 intro k hk
 repeat (first|apply zq|apply zb|apply zk)
 apply zr;intro _
 repeat (first|apply zq|apply zb|apply zk)
 refine AWp.cond (zi (fun h1 => ?_) (fun h1 => ?_))
 ·cases h1
 apply ze
 repeat (first|apply zq|apply zb|apply zk)
 apply zr;intro _
 refine AWp.ret ⟨Or.inl rfl, rfl, ?_⟩
 intro _
 rfl
theorem judR_agg {f : Fun} {o : Oup} : ∀ r1 r2, ∃ b a k c : Int, judR f o r1 r2 = fltV b a k c
 | some (b, a, k), _ => ⟨b, a, k, _, rfl⟩
 | none, some (b, a, k) => ⟨b, a, k, _, rfl⟩
 | none, none => ⟨0, 0, 0, 0, rfl⟩
end Go.Proofs.Ytjjgjflbhpoloaa
