/- Contract of the document's MovesFault. Condition: moves that a machine holds. -/
import Derived.Test.YtjjgjflbhpoloaaOrdG
set_option linter.unusedVariables false
set_option linter.unusedSimpArgs false
namespace Go.Proofs.Ytjjgjflbhpoloaa
open Go Go.Abs Go.RowKit
set_option maxRecDepth 8000 in
set_option maxHeartbeats 16000000 in
theorem c_MovesFault (m : Mch) (l : List Mov) (cs : List Int) (fr : Int) (hl : l.length ≤ maxLen) : ACallIs B.P 13 [m.av, roL 6 Mov.cells l, ints cs, .i64 fr] (.i64 (mvF m l cs fr)) := by
 refine ACallIs.enter B _ _ Try.func13 rfl rfl Try.ntmps13 Try.results13 rfl fun hreal => ?_
 clear hreal
 repeat (first|apply zq|apply zb|apply zk)
 apply zr
 intro _
 refine AWp.freezeObj 4 rfl rfl ?_
 repeat (first|apply zq|apply zb|apply zk)
 apply zr
 repeat' (first|exact trivial|refine And.intro ?_ ?_|refine CallX.pure (c_MachineFault m) rfl rfl rfl ?_|fail)
 intro _
 repeat (first|apply zq|apply zb|apply zk)
 apply zr
 intro _
 repeat (first|apply zq|apply zb|apply zk)
 refine AWp.cond (And.intro (fun h0 => ?_) (fun h0 => ?_))
 ·have hm : machF m ≠ 0 := by simpa using h0
  repeat (first|apply zq|apply zb|apply zk)
  apply zr
  intro _
  refine AWp.ret ⟨Or.inl rfl, rfl, ?_⟩
  intro _
  exact tupI (if_pos hm).symm
 have hm : machF m = 0 := by simpa using h0
 refine AWp.skip ?_
 repeat (first|apply zq|apply zb|apply zk)
 apply zr
 repeat' (first|exact trivial|refine And.intro ?_ ?_|refine CallX.pure (c_In fr 0 999) rfl rfl rfl ?_|fail)
 all_goals first|exact fun hh => hh|exact gT|exact gF|exact gN|exact gA|(intro hh; simpa using hh)|skip
 intro _
 repeat (first|apply zq|apply zb|apply zk)
 refine AWp.cond (And.intro (fun h2 => ?_) (fun h2 => ?_))
 ·have h2 : (bif !inB fr 0 999 then true else decide ((l.length : Int) > 5000)) = true := h2
  have hb : (fr < 0 ∨ 1000 ≤ fr) ∨ 5000 < l.length := by
   unfold inB at h2
   rw [bif_or3] at h2
   simp only [Bool.or_eq_true, Bool.not_eq_true', Bool.and_eq_false_iff, decide_eq_true_eq, decide_eq_false_iff_not] at h2
   omega
  repeat (first|apply zq|apply zb|apply zk)
  apply zr
  intro _
  refine AWp.ret ⟨Or.inl rfl, rfl, ?_⟩
  intro _
  exact tupI (show (1 : Int) = mvF m l cs fr from (by unfold mvF; rw [if_neg (fun h => h hm), if_pos hb]))
 have h2 : (bif !inB fr 0 999 then true else decide ((l.length : Int) > 5000)) = false := h2
 have hb : ¬ ((fr < 0 ∨ 1000 ≤ fr) ∨ 5000 < l.length) := by
  unfold inB at h2
  rw [bif_or3] at h2
  simp only [Bool.or_eq_false_iff, Bool.not_eq_false', Bool.and_eq_true, decide_eq_true_eq, decide_eq_false_iff_not] at h2
  omega
 refine AWp.skip ?_
 repeat (first|apply zq|apply zb|apply zk)
 apply zr
 intro _
 repeat (first|apply zq|apply zb|apply zk)
 refine AWp.cond (And.intro (fun h3 => ?_) (fun h3 => ?_))
 ·have h3 : ((l.length : Int) != (cs.length : Int)) = true := h3
  have hc : cs.length ≠ l.length := fun e => by rw [e] at h3; simp at h3
  repeat (first|apply zq|apply zb|apply zk)
  apply zr
  intro _
  refine AWp.ret ⟨Or.inl rfl, rfl, ?_⟩
  intro _
  exact tupI (show (4 : Int) = mvF m l cs fr from (by unfold mvF; rw [if_neg (fun h => h hm), if_neg hb, if_pos hc]))
 have h3 : ((l.length : Int) != (cs.length : Int)) = false := h3
 have hc : cs.length = l.length := by
  have := h3
  simp only [bne_eq_false_iff_eq] at this
  omega
 have hv0 : mvF m l cs fr = firstF (mvG m l cs fr) l.length := by unfold mvF; rw [if_neg (fun h => h hm), if_neg hb, if_neg (fun h => h hc)]
 refine AWp.skip ?_
 obtain ⟨F, rfl⟩ := Int.eq_ofNat_of_zero_le (show 0 ≤ fr by omega)
 have hF : 0 ≤ (F : Int) ∧ (F : Int) ≤ 1000 := by omega
 repeat (first|apply zq|apply zb|apply zk)
 apply zr
 intro _
 repeat (first|apply zq|apply zb|apply zk)
 refine AWp.loop (fun i : Nat => ⟨[(1, roL 6 Mov.cells l), (2, ints cs), (3, .i64 (F : Nat)), (4, .ptr m.cells), (10, .i64 i)], []⟩) (fun i => i ≤ l.length ∧ ∀ j, j < i → mvG m l cs F j = 0) (fun i => l.length - i) 0 ⟨Nat.zero_le _, fun j hj => absurd hj (Nat.not_lt_zero _)⟩ ?_ ?_
 ·repeat' (first|exact rfl|exact trivial|refine And.intro ?_ ?_)
 rintro i ⟨hi0, hg⟩
 repeat (first|apply zq|apply zb|apply zk)
 apply zr
 intro _
 repeat (first|apply zq|apply zb|apply zk)
 refine AWp.cond (And.intro (fun h4 => ?_) (fun h4 => ?_))
 ·have hi : i < l.length := Int.ofNat_lt.1 (of_decide_eq_true h4)
  have hic : i < cs.length := by omega
  repeat (first|apply zq|apply zb|apply zk)
  apply zr
  repeat' (first|exact trivial|refine And.intro ?_ ?_|refine CallX.pure (c_In _ 0 1) rfl rfl rfl ?_|fail)
  all_goals first|exact fun _ => nn (hic)|exact fun hh => hh|exact gT|exact gF|exact gN|exact gA|(intro hh; simpa using hh)|skip
  intro _
  repeat (first|apply zq|apply zb|apply zk)
  refine AWp.cond (And.intro (fun h5 => ?_) (fun h5 => ?_))
  ·have h5 : (!inB (cs.getD i default) 0 1) = true := h5
   have h5 : (decide ((cs.getD i default) < 0) || decide ((cs.getD i default) ≥ 2)) = true := by
    unfold inB at h5
    simp only [Bool.or_eq_true, Bool.not_eq_true', Bool.and_eq_false_iff, decide_eq_true_eq, decide_eq_false_iff_not] at h5 ⊢
    omega
   repeat (first|apply zq|apply zb|apply zk)
   apply zr
   intro _
   refine AWp.ret ⟨Or.inl rfl, rfl, ?_⟩
   intro _
   exact tupI (hv0.trans ((firstF_hit hi hg (by rw [mvG_1 h5]; decide)).trans (mvG_1 h5))).symm
  have h5 : (!inB (cs.getD i default) 0 1) = false := h5
  have h5 : (decide ((cs.getD i default) < 0) || decide ((cs.getD i default) ≥ 2)) = false := by
   unfold inB at h5
   simp only [Bool.or_eq_false_iff, Bool.not_eq_false', Bool.and_eq_true, decide_eq_true_eq, decide_eq_false_iff_not] at h5 ⊢
   omega
  refine AWp.skip ?_
  repeat (first|apply zq|apply zb|apply zk)
  refine AWp.draw mixed (by kernel_rfl) ?_
  repeat' (first|exact trivial|refine And.intro ?_ ?_|refine CallK.intro (fun _ => c_placeMay m hm F hF (l.getD i default).From false) ?_|refine CallK.intro (fun _ => c_placeMay m hm F hF (l.getD i default).To false) ?_|fail)
  all_goals first|exact fun _ => nn (hi)|exact fun hh => hh|exact gT|exact gF|exact gN|exact gA|(intro hh; simpa using hh)|skip
  intro _
  repeat (first|apply zq|apply zb|apply zk)
  refine AWp.cond (And.intro (fun h6 => ?_) (fun h6 => ?_))
  ·have h6 : (bif !placeF m F (l.getD i default).From then true else !placeF m F (l.getD i default).To) = true := h6
   rw [bif_or3] at h6
   repeat (first|apply zq|apply zb|apply zk)
   apply zr
   intro _
   refine AWp.ret ⟨Or.inl rfl, rfl, ?_⟩
   intro _
   exact tupI (hv0.trans ((firstF_hit hi hg (by rw [mvG_2 h5 h6]; decide)).trans (mvG_2 h5 h6))).symm
  have h6 : (bif !placeF m F (l.getD i default).From then true else !placeF m F (l.getD i default).To) = false := h6
  rw [bif_or3] at h6
  refine AWp.skip ?_
  repeat (first|apply zq|apply zb|apply zk)
  refine AWp.draw mixed (by kernel_rfl) ?_
  repeat' (first|exact trivial|refine And.intro ?_ ?_|fail)
  all_goals first|exact fun _ => nn (hi)|exact fun _ => nn (hic)|exact fun hh => hh|exact gT|exact gF|exact gN|exact gA|(intro hh; simpa using hh)|skip
  intro _
  repeat (first|apply zq|apply zb|apply zk)
  refine AWp.cond (And.intro (fun h7 => ?_) (fun h7 => ?_))
  ·have h7 : (bif (bif (l.getD i default).From.Kind == 1 then (l.getD i default).From.Class != (cs.getD i default) else false) then true else (bif (l.getD i default).To.Kind == 1 then (l.getD i default).To.Class != (cs.getD i default) else false)) = true := h7
   rw [bif_or3, bif_and3, bif_and3] at h7
   repeat (first|apply zq|apply zb|apply zk)
   apply zr
   intro _
   refine AWp.ret ⟨Or.inl rfl, rfl, ?_⟩
   intro _
   exact tupI (hv0.trans ((firstF_hit hi hg (by rw [mvG_3 h5 h6 h7]; decide)).trans (mvG_3 h5 h6 h7))).symm
  have h7 : (bif (bif (l.getD i default).From.Kind == 1 then (l.getD i default).From.Class != (cs.getD i default) else false) then true else (bif (l.getD i default).To.Kind == 1 then (l.getD i default).To.Class != (cs.getD i default) else false)) = false := h7
  rw [bif_or3, bif_and3, bif_and3] at h7
  have hm4 := mvG_4 (m := m) (fr := F) h5 h6 h7
  refine AWp.skip ?_
  repeat (first|apply zq|apply zb|apply zk)
  apply zr
  intro _
  repeat (first|apply zq|apply zb|apply zk)
  refine AWp.loop (fun k : Nat => ⟨[(1, roL 6 Mov.cells l), (2, ints cs), (3, .i64 (F : Nat)), (4, .ptr m.cells), (10, .i64 i), (11, .i64 k)], []⟩) (fun k => k ≤ i ∧ ∀ j, j < k → (l.getD j default).To ≠ (l.getD i default).To) (fun k => i - k) 0 ⟨Nat.zero_le _, fun j hj => absurd hj (Nat.not_lt_zero _)⟩ ?_ ?_
  ·repeat' (first|exact rfl|exact trivial|refine And.intro ?_ ?_)
  rintro k ⟨hk0, hkg⟩
  repeat (first|apply zq|apply zb|apply zk)
  apply zr
  intro _
  repeat (first|apply zq|apply zb|apply zk)
  refine AWp.cond (And.intro (fun h8 => ?_) (fun h8 => ?_))
  ·have hk : k < i := Int.ofNat_lt.1 (of_decide_eq_true h8)
   have hkl : k < l.length := by omega
   repeat (first|apply zq|apply zb|apply zk)
   refine AWp.draw mixed (by kernel_rfl) ?_
   repeat' (first|exact trivial|refine And.intro ?_ ?_|fail)
   all_goals first|exact fun _ => nn (hi)|exact fun _ => nn (hkl)|exact fun hh => hh|exact gT|exact gF|exact gN|exact gA|(intro hh; simpa using hh)|skip
   intro _
   repeat (first|apply zq|apply zb|apply zk)
   refine AWp.cond (And.intro (fun h9 => ?_) (fun h9 => ?_))
   ·have h9 : (((l.getD k default).To.Kind == (l.getD i default).To.Kind) && (((l.getD k default).To.Class == (l.getD i default).To.Class) && (((l.getD k default).To.N == (l.getD i default).To.N) && true))) = true := h9
    rw [plc_eq] at h9
    rw [if_pos ((hasP_iff i).2 ⟨k, hk, beq_iff_eq.1 h9⟩)] at hm4
    repeat (first|apply zq|apply zb|apply zk)
    apply zr
    intro _
    refine AWp.ret ⟨Or.inl rfl, rfl, ?_⟩
    intro _
    exact tupI (hv0.trans ((firstF_hit hi hg (by rw [hm4]; decide)).trans hm4)).symm
   have h9 : (((l.getD k default).To.Kind == (l.getD i default).To.Kind) && (((l.getD k default).To.Class == (l.getD i default).To.Class) && (((l.getD k default).To.N == (l.getD i default).To.N) && true))) = false := h9
   rw [plc_eq] at h9
   refine AWp.skip ?_
   repeat (first|apply zq|apply zb|apply zk)
   apply zr
   intro _
   refine round_end (k + 1) ⟨hk, fun j hj => ?_⟩ ?_ (by omega)
   ·by_cases e : j = k
    ·rw [e]; exact beq_eq_false_iff_ne.1 h9
    ·exact hkg j (by omega)
   repeat' (first|exact rfl|exact trivial|exact congrArg (fun z => some (AV.i64 z)) (wrap_succ (show k < l.length from hkl) hl)|refine And.intro ?_ ?_)
  have hk3 : ¬ (k : Int) < i := of_decide_eq_false h8
  obtain rfl : k = i := by omega
  rw [if_neg (fun hh => by obtain ⟨j, hj, e⟩ := (hasP_iff _).1 hh; exact hkg j hj e)] at hm4
  apply ze
  repeat (first|apply zq|apply zb|apply zk)
  apply zr
  intro _
  refine round_end (k + 1) ⟨hi, fun j hj => ?_⟩ ?_ (by omega)
  ·by_cases e : j = k
   ·rw [e]; exact hm4
   ·exact hg j (by omega)
  repeat' (first|exact rfl|exact trivial|exact congrArg (fun z => some (AV.i64 z)) (wrap_succ hi hl)|refine And.intro ?_ ?_)
 have h4 : ¬ (i : Int) < l.length := of_decide_eq_false h4
 obtain rfl : i = l.length := by omega
 apply ze
 repeat (first|apply zq|apply zb|apply zk)
 apply zr
 intro _
 refine AWp.ret ⟨Or.inl rfl, rfl, ?_⟩
 intro _
 exact tupI (hv0.trans (firstF_none hg)).symm
end Go.Proofs.Ytjjgjflbhpoloaa
