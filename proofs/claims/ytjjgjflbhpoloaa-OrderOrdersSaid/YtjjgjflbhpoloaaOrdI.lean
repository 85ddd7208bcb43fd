/- Contract of the document's MovesRight. Condition: moves laid right. -/
import Derived.Test.YtjjgjflbhpoloaaOrdH
set_option linter.unusedVariables false
set_option linter.unusedSimpArgs false
namespace Go.Proofs.Ytjjgjflbhpoloaa
open Go Go.Abs Go.RowKit
@[reducible] def rowS (N : Nat) (σ : Nat → Int) : HO := .row 3 1 N (fun i => intC (σ i))
def idS (k : Nat) : Nat → Int := fun c => if c < k then (c : Int) else 0
theorem idS_succ {k c : Nat} : idS (k + 1) c = if c = k then (k : Int) else idS k c := by
 unfold idS
 by_cases h : c = k
 ·rw [if_pos h, h, if_pos (Nat.lt_succ_self k)]
 ·rw [if_neg h]
  by_cases h2 : c < k
  ·rw [if_pos h2, if_pos (by omega)]
  ·rw [if_neg h2, if_neg (by omega)]
theorem intC_if {c : Prop} [Decidable c] {a b : Int} : intC (if c then a else b) = if c then intC a else intC b := by split <;> rfl
theorem celF_lt {fr : Nat} {p : Plc} (h : PlOk fr p) : celF p < 22 + fr := by
 unfold celF
 rcases h with h | h
 ·rw [if_neg (by omega)]; omega
 ·rw [if_pos h.1]; omega
theorem exL_take {σ : Nat → Int} {out : List Mov} {i : Nat} (h : i < out.length) (c : Nat) : exL σ (out.take (i + 1)) c = if c = celF (out.getD i default).To then exL σ (out.take i) (celF (out.getD i default).From) else exL σ (out.take i) c := by
 rw [take_nxt h, exL_snoc]; rfl
set_option maxHeartbeats 1000000 in
theorem m_joinedInts (N : Nat) (σ : Nat → Int) (hN : N ≤ 100000) : ACallM B.P 37 ⟨[.sl 1001 N, .val (.slice none 0 0)], [(1001, rowS N σ)], .sl 61 N, [(61, rowS N σ), (1001, rowS N σ)]⟩ := by
 have hm : N ≤ maxLen := by unfold maxLen; omega
 refine ACallM.enter B _ _ Try.func37 rfl rfl Try.ntmps37 Try.results37 rfl ?_ fun hreal => ?_
 ·refine And.intro ?_ (And.intro ?_ ?_)
  all_goals repeat' (first|exact rfl|exact trivial|refine And.intro ?_ ?_)
 clear hreal
 repeat (first|apply zq|apply zb|apply zk)
 apply zr
 intro _
 repeat (first|apply zq|apply zb|apply zk)
 apply zr
 intro _
 repeat (first|apply zq|apply zb|apply zk)
 apply zr
 intro _
 refine AWp.adopt 5 61 3 1 rfl rfl rfl ?_
 repeat (first|apply zq|apply zb|apply zk)
 refine AWp.loop (fun k : Nat => ⟨[(0, .sl 1001 N), (1, .val (.slice none 0 0)), (5, .sl 61 k), (6, .i64 k)], [(61, rowS k σ), (1001, rowS N σ)]⟩) (fun k => k ≤ N) (fun k => N - k) 0 (Nat.zero_le _) ?_ ?_
 ·refine And.intro ?_ (And.intro ⟨_, _, rfl, rfl, fun i hi => absurd hi (by omega)⟩ (And.intro trivial (And.intro ⟨_, _, rfl, rfl, fun i hi => rfl⟩ (And.intro trivial trivial))))
  all_goals repeat' (first|exact rfl|exact trivial|refine And.intro ?_ ?_)
 intro k hk0
 repeat (first|apply zq|apply zb|apply zk)
 apply zr
 intro _
 repeat (first|apply zq|apply zb|apply zk)
 refine AWp.cond (And.intro (fun h1 => ?_) (fun h1 => ?_))
 ·have hk : k < N := Int.ofNat_lt.1 (of_decide_eq_true h1)
  repeat (first|apply zq|apply zb|apply zk)
  apply zr
  repeat' (first|exact trivial|refine And.intro ?_ ?_|fail)
  all_goals first|exact fun _ => nn (hk)|exact fun _ => hk|exact hk|exact Nat.le_refl _|(intro i hi; have e : i = 0 := (by omega); subst e; exact rfl)|exact rfl|omega|skip
  intro _
  refine AWp.rename 20 61 rfl rfl ?_
  repeat (first|apply zq|apply zb|apply zk)
  apply zr
  intro _
  refine round_end (k + 1) hk ?_ (by omega)
  refine And.intro ?_ (And.intro ⟨_, _, rfl, rfl, fun i hi => ?_⟩ (And.intro trivial (And.intro ⟨_, _, rfl, rfl, fun i hi => rfl⟩ (And.intro trivial trivial))))
  ·repeat' (first|exact rfl|exact trivial|exact congrArg (fun z => some (AV.i64 z)) (wrap_succ hk hm)|refine And.intro ?_ ?_)
  ·have hi2 : i < k + 1 := hi
   by_cases e : i < k
   ·exact (if_pos e).symm
   ·obtain rfl : i = k := by omega
    refine Eq.trans ?_ (if_neg e).symm
    show _ = [_].getD (i - i) []
    rw [Nat.sub_self]; rfl
 have hk3 : ¬ (k : Int) < N := of_decide_eq_false h1
 obtain rfl : k = N := by omega
 apply ze
 repeat (first|apply zq|apply zb|apply zk)
 apply zr
 intro _
 repeat (first|apply zq|apply zb|apply zk)
 refine AWp.loop (fun j : Nat => ⟨[(1, .val (.slice none 0 0)), (5, .sl 61 k), (7, .i64 (0 : Nat))], [(61, rowS k σ), (1001, rowS k σ)]⟩) (fun j => j = 0) (fun j => 0 - j) 0 rfl ?_ ?_
 ·refine And.intro ?_ (And.intro ⟨_, _, rfl, rfl, fun i hi => rfl⟩ (And.intro trivial (And.intro ⟨_, _, rfl, rfl, fun i hi => rfl⟩ (And.intro trivial trivial))))
  all_goals repeat' (first|exact rfl|exact trivial|refine And.intro ?_ ?_)
 intro j hj
 repeat (first|apply zq|apply zb|apply zk)
 apply zr
 intro _
 repeat (first|apply zq|apply zb|apply zk)
 refine AWp.cond (And.intro (fun h2 => ?_) (fun h2 => ?_))
 ·exact absurd h2 (by decide)
 apply ze
 repeat (first|apply zq|apply zb|apply zk)
 apply zr
 intro _
 refine AWp.ret ⟨Or.inl rfl, ?_⟩
 intro _
 refine And.intro rfl (And.intro ?_ (And.intro ⟨_, _, rfl, rfl, fun i hi => rfl⟩ (And.intro trivial (And.intro ⟨_, _, rfl, rfl, fun i hi => rfl⟩ (And.intro trivial trivial)))))
 all_goals repeat' (first|exact rfl|exact trivial|refine And.intro ?_ ?_)
set_option maxRecDepth 8000 in
set_option maxHeartbeats 16000000 in
theorem c_MovesRight (m : Mch) (hm : machF m = 0) (F : Nat) (hF : F < 1000) (l out : List Mov) (hl : l.length ≤ 5000) (hp : ∀ j, j < l.length → placeF m F (l.getD j default).From = true ∧ placeF m F (l.getD j default).To = true)
  (hn : out.length ≤ 4 * l.length) (ho : ∀ x, x ∈ out → MvOk m F x) (hx : ∀ c, c < 22 + F → (∀ q, q = 0 ∨ q = 1 → c ≠ celF (scP m q)) → exL (idS (F + 23)) out c = wF l (idS (F + 23)) l.length c) : ACallIs B.P 14 [m.av, roL 6 Mov.cells l, .i64 F, mvR out] (.bool true) := by
 have hlm : l.length ≤ maxLen := by unfold maxLen; omega
 have hom : out.length ≤ maxLen := by unfold maxLen; omega
 have hNm : (F + 23) ≤ maxLen := by unfold maxLen; omega
 have hw1 : IntKind.i64.wrap (IntKind.i64.wrap (22 + (F : Int)) + 1) = ((F + 23) : Nat) := by
  rw [wrap_in (n := 22 + (F : Int)) (by omega) (by omega), wrap_in (by omega) (by omega)]; omega
 refine ACallIs.enter B _ _ Try.func14 rfl rfl Try.ntmps14 Try.results14 rfl fun hreal => ?_
 clear hreal
 repeat (first|apply zq|apply zb|apply zk)
 apply zr
 intro _
 refine AWp.freezeObj 4 rfl rfl ?_
 repeat (first|apply zq|apply zb|apply zk)
 apply zr
 repeat' (first|exact trivial|refine And.intro ?_ ?_|fail)
 all_goals first|exact rfl|(rw [hw1]; omega)|(show 8 * _ ≤ _; rw [hw1]; show 8 * (F + 23) ≤ _; omega)|skip
 intro _
 refine AWp.rename 19 61 rfl rfl ?_
 repeat (first|apply zq|apply zb|apply zk)
 apply zr
 intro _
 repeat (first|apply zq|apply zb|apply zk)
 refine AWp.loop (fun k : Nat => ⟨[(1, roL 6 Mov.cells l), (2, .i64 F), (3, mvR out), (4, .ptr m.cells), (9, .sl 61 (F + 23)), (10, .i64 k)], [(61, rowS (F + 23) (idS k))]⟩) (fun k => k ≤ (F + 23)) (fun k => (F + 23) - k) 0 (Nat.zero_le _) ?_ ?_
 ·refine And.intro ?_ (And.intro ⟨_, _, rfl, congrArg Int.toNat hw1, fun z hz => congrArg intC (show idS 0 z = 0 from if_neg (Nat.not_lt_zero _))⟩ (And.intro trivial trivial))
  all_goals repeat' (first|exact rfl|exact trivial|exact congrArg (fun z : Int => some (AV.sl 61 z.toNat)) hw1|refine And.intro ?_ ?_)
 intro k hk0
 repeat (first|apply zq|apply zb|apply zk)
 apply zr
 intro _
 repeat (first|apply zq|apply zb|apply zk)
 refine AWp.cond (And.intro (fun h1 => ?_) (fun h1 => ?_))
 ·have hk : k < (F + 23) := Int.ofNat_lt.1 (of_decide_eq_true h1)
  repeat (first|apply zq|apply zb|apply zk)
  apply zr
  repeat' (first|exact trivial|refine And.intro ?_ ?_|fail)
  all_goals first|exact fun _ => nn (hk)|exact fun _ => hk|exact hk|exact fun hh => hh|exact gT|exact gF|exact gN|exact gA|(intro hh; simpa using hh)|skip
  intro _
  repeat (first|apply zq|apply zb|apply zk)
  apply zr
  intro _
  refine round_end (k + 1) hk ?_ (by omega)
  refine And.intro ?_ (And.intro ⟨_, _, rfl, rfl, fun z hz => (congrArg intC idS_succ).trans intC_if⟩ (And.intro trivial trivial))
  repeat' (first|exact rfl|exact trivial|exact congrArg (fun z => some (AV.i64 z)) (wrap_succ hk hNm)|refine And.intro ?_ ?_)
 have hk3 : ¬ (k : Int) < (F + 23) := of_decide_eq_false h1
 obtain rfl : k = (F + 23) := by omega
 apply ze
 repeat (first|apply zq|apply zb|apply zk)
 apply zr
 repeat' (first|exact trivial|refine And.intro ?_ ?_|refine CallX.lend (m_joinedInts (F + 23) (idS (F + 23)) (by omega)) [(1001, 61), (61, 62)] rfl (And.intro rfl trivial) rfl ?_|fail)
 intro _
 repeat (first|apply zq|apply zb|apply zk)
 apply zr
 intro _
 repeat (first|apply zq|apply zb|apply zk)
 refine AWp.loop (fun k : Nat => ⟨[(1, roL 6 Mov.cells l), (2, .i64 F), (3, mvR out), (4, .ptr m.cells), (9, .sl 61 (F + 23)), (11, .sl 62 (F + 23)), (12, .i64 k)], [(61, rowS (F + 23) (idS (F + 23))), (62, rowS (F + 23) (wF l (idS (F + 23)) k))]⟩) (fun k => k ≤ l.length) (fun k => l.length - k) 0 (Nat.zero_le _) ?_ ?_
 ·refine And.intro ?_ (And.intro ⟨_, _, rfl, rfl, fun z hz => rfl⟩ (And.intro trivial (And.intro ⟨_, _, rfl, rfl, fun z hz => rfl⟩ (And.intro trivial trivial))))
  all_goals repeat' (first|exact rfl|exact trivial|refine And.intro ?_ ?_)
 intro k hk0
 repeat (first|apply zq|apply zb|apply zk)
 apply zr
 intro _
 repeat (first|apply zq|apply zb|apply zk)
 refine AWp.cond (And.intro (fun h2 => ?_) (fun h2 => ?_))
 ·have hk : k < l.length := Int.ofNat_lt.1 (of_decide_eq_true h2)
  have k1 := end_plOk hm (place_end (hp k hk).1)
  have k2 := end_plOk hm (place_end (hp k hk).2)
  have k3 : celF (l.getD k default).From < (F + 23) := Nat.lt_of_lt_of_le (celF_lt k1) (by omega)
  have k4 : celF (l.getD k default).To < (F + 23) := Nat.lt_of_lt_of_le (celF_lt k2) (by omega)
  repeat (first|apply zq|apply zb|apply zk)
  refine AWp.quietU (.q 0 [] (.q 1 [] (.q 2 [] (.q 3 [] (.q 4 [] (.q 5 [] (.q 7 [] (.q 8 [] (.q 9 [] (.q 10 [] (.q 11 [] (.q 12 [] (.k 6 [] (.k 13 [] (.q 14 [61] (.q 15 [61] (.q 16 [62] (.k 17 [] .fin .no)))) .no) .no))))))))))))) [(0, []), (1, []), (2, []), (3, []), (4, []), (5, []), (7, []), (8, []), (9, []), (10, []), (11, []), (12, []), (14, [61]), (15, [61]), (16, [62])] mixed (by kernel_rfl) ?_
  repeat' (first|exact trivial|refine And.intro ?_ ?_|refine CallK.intro (fun _ => c_cellOf (show F + 1 ≤ 1000 from hF) k1) ?_|refine CallK.intro (fun _ => c_cellOf (show F + 1 ≤ 1000 from hF) k2) ?_|refine CallX.pure (c_cellOf (show F + 1 ≤ 1000 from hF) k1) rfl rfl rfl ?_|refine CallX.pure (c_cellOf (show F + 1 ≤ 1000 from hF) k2) rfl rfl rfl ?_|fail)
  all_goals first|exact fun _ => nn (hk)|exact fun _ => nn (k3)|exact fun _ => nn (k4)|exact fun _ => hk|exact fun _ => k3|exact fun _ => k4|exact hk|exact k3|exact k4|exact fun hh => hh|exact gT|exact gF|exact gN|exact gA|(intro hh; simpa using hh)|skip
  intro _
  repeat (first|apply zq|apply zb|apply zk)
  apply zr
  intro _
  refine round_end (k + 1) hk ?_ (by omega)
  refine And.intro ?_ (And.intro ⟨_, _, rfl, rfl, fun z hz => rfl⟩ (And.intro trivial (And.intro ⟨_, _, rfl, rfl, fun z hz => (show intC (if z = celF (l.getD k default).To then (idS (F + 23)) (celF (l.getD k default).From) else wF l (idS (F + 23)) k z) = _ from intC_if)⟩ (And.intro trivial trivial))))
  repeat' (first|exact rfl|exact trivial|exact congrArg (fun z => some (AV.i64 z)) (wrap_succ hk hlm)|refine And.intro ?_ ?_)
 have hk3 : ¬ (k : Int) < l.length := of_decide_eq_false h2
 obtain rfl : k = l.length := by omega
 apply ze
 have hw4 : IntKind.i64.wrap (4 * (l.length : Int)) = 4 * (l.length : Int) := wrap_in (by omega) (by omega)
 repeat (first|apply zq|apply zb|apply zk)
 apply zr
 intro _
 repeat (first|apply zq|apply zb|apply zk)
 refine AWp.cond (And.intro (fun h3 => ?_) (fun h3 => ?_))
 ·have h3 : decide ((out.length : Int) > IntKind.i64.wrap (4 * (l.length : Int))) = true := h3
  rw [hw4] at h3
  have := of_decide_eq_true h3
  omega
 refine AWp.skip ?_
 repeat (first|apply zq|apply zb|apply zk)
 apply zr
 intro _
 repeat (first|apply zq|apply zb|apply zk)
 refine AWp.loop (fun k : Nat => ⟨[(1, roL 6 Mov.cells l), (2, .i64 F), (3, mvR out), (4, .ptr m.cells), (9, .sl 61 (F + 23)), (11, .sl 62 (F + 23)), (13, .i64 k)], [(61, rowS (F + 23) (exL (idS (F + 23)) (out.take k))), (62, rowS (F + 23) (wF l (idS (F + 23)) l.length))]⟩) (fun k => k ≤ out.length) (fun k => out.length - k) 0 (Nat.zero_le _) ?_ ?_
 ·refine And.intro ?_ (And.intro ⟨_, _, rfl, rfl, fun z hz => rfl⟩ (And.intro trivial (And.intro ⟨_, _, rfl, rfl, fun z hz => rfl⟩ (And.intro trivial trivial))))
  all_goals repeat' (first|exact rfl|exact trivial|refine And.intro ?_ ?_)
 intro k hk0
 repeat (first|apply zq|apply zb|apply zk)
 apply zr
 intro _
 repeat (first|apply zq|apply zb|apply zk)
 refine AWp.cond (And.intro (fun h4 => ?_) (fun h4 => ?_))
 ·have hk : k < out.length := Int.ofNat_lt.1 (of_decide_eq_true h4)
  obtain ⟨e1, e2, e3, e4⟩ := ho (out.getD k default) (getD_mem hk)
  have k1 := end_plOk hm e1
  have k2 := end_plOk hm e2
  have k3 : celF (out.getD k default).From < (F + 23) := Nat.lt_of_lt_of_le (celF_lt k1) (by omega)
  have k4 : celF (out.getD k default).To < (F + 23) := Nat.lt_of_lt_of_le (celF_lt k2) (by omega)
  have hw2 : IntKind.i64.wrap ((F : Int) + 1) = ((F + 1 : Nat) : Int) := by rw [wrap_in (by omega) (by omega)]; rfl
  have hw5 : 0 ≤ IntKind.i64.wrap ((F : Int) + 1) ∧ IntKind.i64.wrap ((F : Int) + 1) ≤ 1000 := by rw [hw2]; omega
  repeat (first|apply zq|apply zb|apply zk)
  apply zr
  repeat' (first|exact trivial|refine And.intro ?_ ?_|fail)
  all_goals first|exact fun _ => nn (hk)|exact fun _ => hk|exact hk|exact fun hh => hh|exact gT|exact gF|exact gN|exact gA|(intro hh; simpa using hh)|skip
  intro _
  refine AWp.freezeObj 14 rfl rfl ?_
  repeat (first|apply zq|apply zb|apply zk)
  apply zr
  repeat' (first|exact trivial|refine And.intro ?_ ?_|refine CallX.pure (c_placeMay m hm _ hw5 (out.getD k default).From true) rfl rfl rfl ?_|refine CallK.intro (fun _ => c_placeMay m hm _ hw5 (out.getD k default).To true) ?_|fail)
  all_goals first|exact fun hh => hh|exact gT|exact gF|exact gN|exact gA|(intro hh; simpa using hh)|skip
  intro _
  repeat (first|apply zq|apply zb|apply zk)
  refine AWp.cond (And.intro (fun h5 => ?_) (fun h5 => ?_))
  ·have h5 : (bif (bif !endF m (IntKind.i64.wrap ((F : Int) + 1)) (out.getD k default).From then true else !endF m (IntKind.i64.wrap ((F : Int) + 1)) (out.getD k default).To) then true else (bif (out.getD k default).From.Kind == 2 then (out.getD k default).To.Kind == 2 else false)) = true := h5
   rw [hw2, e1, e2] at h5
   rw [bif_and3] at h5
   have h5 : ((out.getD k default).From.Kind == 2 && (out.getD k default).To.Kind == 2) = true := h5
   rw [Bool.and_eq_true, beq_iff_eq, beq_iff_eq] at h5
   exact absurd h5 e3
  refine AWp.skip ?_
  repeat (first|apply zq|apply zb|apply zk)
  apply zr
  repeat' (first|exact trivial|refine And.intro ?_ ?_|fail)
  all_goals first|exact fun hh => hh|exact gT|exact gF|exact gN|exact gA|(intro hh; simpa using hh)|skip
  intro _
  repeat (first|apply zq|apply zb|apply zk)
  refine AWp.cond (And.intro (fun h6 => ?_) (fun h6 => ?_))
  ·have h6 : (bif (bif (out.getD k default).From.Kind == 1 then (out.getD k default).To.Kind == 1 else false) then (out.getD k default).From.Class != (out.getD k default).To.Class else false) = true := h6
   rw [bif_and3, bif_and3, Bool.and_eq_true, Bool.and_eq_true, beq_iff_eq, beq_iff_eq, bne_iff_ne] at h6
   exact absurd (e4 h6.1.1 h6.1.2) h6.2
  refine AWp.skip ?_
  repeat (first|apply zq|apply zb|apply zk)
  refine AWp.quietU (.q 0 [] (.q 1 [] (.q 2 [] (.q 4 [] (.q 5 [] (.q 6 [] (.k 3 [] (.k 7 [] (.q 8 [61] (.q 9 [61] (.q 10 [61] (.k 11 [] .fin .no)))) .no) .no))))))) [(0, []), (1, []), (2, []), (4, []), (5, []), (6, []), (8, [61]), (9, [61]), (10, [61])] mixed (by kernel_rfl) ?_
  repeat' (first|exact trivial|refine And.intro ?_ ?_|refine CallK.intro (fun _ => c_cellOf (show F + 1 ≤ 1000 from hF) k1) ?_|refine CallK.intro (fun _ => c_cellOf (show F + 1 ≤ 1000 from hF) k2) ?_|refine CallX.pure (c_cellOf (show F + 1 ≤ 1000 from hF) k1) rfl rfl rfl ?_|refine CallX.pure (c_cellOf (show F + 1 ≤ 1000 from hF) k2) rfl rfl rfl ?_|fail)
  all_goals first|exact fun _ => nn (hk)|exact fun _ => nn (k3)|exact fun _ => nn (k4)|exact fun _ => hk|exact fun _ => k3|exact fun _ => k4|exact hk|exact k3|exact k4|exact fun hh => hh|exact gT|exact gF|exact gN|exact gA|(intro hh; simpa using hh)|skip
  intro _
  repeat (first|apply zq|apply zb|apply zk)
  apply zr
  intro _
  refine round_end (k + 1) hk ?_ (by omega)
  refine And.intro ?_ (And.intro ⟨_, _, rfl, rfl, fun z hz => ((congrArg intC (exL_take hk z)).trans intC_if)⟩ (And.intro trivial (And.intro ⟨_, _, rfl, rfl, fun z hz => rfl⟩ (And.intro trivial trivial))))
  repeat' (first|exact rfl|exact trivial|exact congrArg (fun z => some (AV.i64 z)) (wrap_succ hk hom)|refine And.intro ?_ ?_)
 have hk3 : ¬ (k : Int) < out.length := of_decide_eq_false h4
 obtain rfl : k = out.length := by omega
 apply ze
 repeat (first|apply zq|apply zb|apply zk)
 apply zr
 intro _
 repeat (first|apply zq|apply zb|apply zk)
 refine AWp.loop (fun k : Nat => ⟨[(1, roL 6 Mov.cells l), (2, .i64 F), (3, mvR out), (4, .ptr m.cells), (9, .sl 61 (F + 23)), (11, .sl 62 (F + 23)), (15, .i64 k)], [(61, rowS (F + 23) (exL (idS (F + 23)) out)), (62, rowS (F + 23) (wF l (idS (F + 23)) l.length))]⟩) (fun k => k ≤ (F + 22)) (fun k => (F + 22) - k) 0 (Nat.zero_le _) ?_ ?_
 ·refine And.intro ?_ (And.intro ⟨_, _, rfl, rfl, fun z hz => congrArg (fun L => intC (exL (idS (F + 23)) L z)) List.take_length.symm⟩ (And.intro trivial (And.intro ⟨_, _, rfl, rfl, fun z hz => rfl⟩ (And.intro trivial trivial))))
  all_goals repeat' (first|exact rfl|exact trivial|refine And.intro ?_ ?_)
 intro k hk0
 have hw6 : IntKind.i64.wrap (((F + 23) : Nat) - 1) = ((F + 22 : Nat) : Int) := by rw [wrap_in (by omega) (by omega)]; omega
 repeat (first|apply zq|apply zb|apply zk)
 apply zr
 intro _
 repeat (first|apply zq|apply zb|apply zk)
 refine AWp.cond (And.intro (fun h7 => ?_) (fun h7 => ?_))
 ·have h7 : decide ((k : Int) < IntKind.i64.wrap (((F + 23) : Nat) - 1)) = true := h7
  rw [hw6] at h7
  have hk : k < F + 22 := Int.ofNat_lt.1 (of_decide_eq_true h7)
  have hkN : k < (F + 23) := by omega
  have hq0 : (k : Int).tdiv 11 = ((k / 11 : Nat) : Int) := rfl
  have hq3 : (k : Int).tmod 11 = ((k % 11 : Nat) : Int) := rfl
  have hq1 : k < 22 → IntKind.i64.wrap ((k : Int).tdiv 11) = ((k / 11 : Nat) : Int) := fun h => by rw [hq0]; exact wrap_in (by omega) (by omega)
  have hq2 : (decide ((k : Int) < 22) == true) = true → 0 ≤ IntKind.i64.wrap ((k : Int).tdiv 11) ∧ IntKind.i64.wrap ((k : Int).tdiv 11) < ((2 : Nat) : Int) := fun hh => by
   have h : (k : Int) < 22 := by simpa using hh
   rw [hq1 (by omega)]
   omega
  repeat (first|apply zq|apply zb|apply zk)
  apply zr
  repeat' (first|exact trivial|refine And.intro ?_ ?_|fail)
  all_goals first|decide|exact fun hh => hh|exact gT|exact gF|exact hq2|skip
  intro _
  repeat (first|apply zq|apply zb|apply zk)
  refine AWp.cond (And.intro (fun h8 => ?_) (fun h8 => ?_))
  ·apply ze
   repeat (first|apply zq|apply zb|apply zk)
   apply zr
   intro _
   refine round_end (k + 1) hk ?_ (by omega)
   refine And.intro ?_ (And.intro ⟨_, _, rfl, rfl, fun z hz => rfl⟩ (And.intro trivial (And.intro ⟨_, _, rfl, rfl, fun z hz => rfl⟩ (And.intro trivial trivial))))
   repeat' (first|exact rfl|exact trivial|exact congrArg (fun z => some (AV.i64 z)) (wrap_succ hk (show F + 22 ≤ maxLen by omega))|refine And.intro ?_ ?_)
  have h8 : (bif decide ((k : Int) < 22) then (k : Int).tmod 11 == [m.r0, m.r1].getD (IntKind.i64.wrap ((k : Int).tdiv 11)).toNat 0 else false) = false := h8
  rw [bif_and3] at h8
  have hk6 : ∀ q, q = 0 ∨ q = 1 → k ≠ celF (scP m q) := fun q hq e => by
   have hr := reg_rng hm q
   have e : k = 11 * q.toNat + (regF m q).toNat := e.trans (celF_reg rfl)
   by_cases h9 : k < 22
   ·rw [decide_eq_true (show (k : Int) < 22 by omega), Bool.true_and, hq1 h9, hq3] at h8
    have h8 := beq_eq_false_iff_ne.1 h8
    by_cases h10 : regF m q = 11
    ·omega
    ·have hd : k / 11 = q.toNat := by omega
     rw [hd] at h8
     have h8 : ((k % 11 : Nat) : Int) ≠ regF m q := h8
     omega
   ·rcases hq with rfl | rfl
    ·have e : k = 11 * 0 + (regF m 0).toNat := e
     omega
    ·have e : k = 11 * 1 + (regF m 1).toNat := e
     have : k = 22 - 1 + ((regF m 1).toNat - 10) := by omega
     omega
  have hk7 := hx k (by omega) hk6
  refine AWp.skip ?_
  repeat (first|apply zq|apply zb|apply zk)
  refine AWp.draw mixed (by kernel_rfl) ?_
  repeat' (first|exact trivial|refine And.intro ?_ ?_|fail)
  all_goals first|exact fun _ => nn (hkN)|exact fun _ => hkN|exact hkN|skip
  intro _
  repeat (first|apply zq|apply zb|apply zk)
  refine AWp.cond (And.intro (fun h9 => ?_) (fun h9 => ?_))
  ·have h9 : (exL (idS (F + 23)) out k != wF l (idS (F + 23)) l.length k) = true := h9
   rw [hk7, bne_self_eq_false] at h9
   cases h9
  refine AWp.skip ?_
  repeat (first|apply zq|apply zb|apply zk)
  apply zr
  intro _
  refine round_end (k + 1) hk ?_ (by omega)
  refine And.intro ?_ (And.intro ⟨_, _, rfl, rfl, fun z hz => rfl⟩ (And.intro trivial (And.intro ⟨_, _, rfl, rfl, fun z hz => rfl⟩ (And.intro trivial trivial))))
  repeat' (first|exact rfl|exact trivial|exact congrArg (fun z => some (AV.i64 z)) (wrap_succ hk (show F + 22 ≤ maxLen by omega))|refine And.intro ?_ ?_)
 have h7 : decide ((k : Int) < IntKind.i64.wrap (((F + 23) : Nat) - 1)) = false := h7
 rw [hw6] at h7
 have h7 := of_decide_eq_false h7
 obtain rfl : k = F + 22 := by omega
 apply ze
 repeat (first|apply zq|apply zb|apply zk)
 apply zr
 intro _
 refine AWp.ret ⟨Or.inl rfl, rfl, ?_⟩
 intro _
 rfl
end Go.Proofs.Ytjjgjflbhpoloaa
