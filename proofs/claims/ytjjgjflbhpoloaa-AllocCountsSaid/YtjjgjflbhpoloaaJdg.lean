/- judge.Judge and the document's Judged: contracts. Condition: an output that may be. -/
import Derived.Test.YtjjgjflbhpoloaaJuw
set_option linter.unusedVariables false
set_option linter.unusedSimpArgs false
namespace Go.Proofs.Ytjjgjflbhpoloaa
open Go Go.Abs Go.RowKit Go.Abs.Gra
def samB (q r : Plc) : Bool := q.Kind == r.Kind && (q.Class == r.Class && (q.N == r.N && true))
def limB (o : Opd) (q : Plc) (p : List Plc) : Bool :=
 if o.Limit = 2 then decide (q.Kind = 1) else if o.Limit = 3 then decide (q.Kind = 2) else if o.Limit = 4 then decide (q.Kind = 1 ∧ q.N = o.N) else if o.Limit = 5 then samB q (p.getD o.N.toNat default) else true
def lim1 (f : Fun) (o : Opd) (q : Plc) (p : List Plc) : Int := if q.Kind = 1 ∧ q.Class ≠ cls f o.Value then 17 else if limB o q p = true then 0 else 13
theorem opsAll_at {f : Fun} {m : Mch} (h : chkF f m = 0) {b a : Nat} (hb : b < f.Blocks.length) (ha : a < (f.Blocks.getD b default).Instrs.length) : OpsAll f (insAt f b a) := by
 obtain ⟨h1, h2, h3, h4, h5⟩ := chkF_zero h
 have hz := (chkd_of h).e.siz
 have hi := (blkF_zero (firstF_zero h4 b hb)).1
 have hi2 : insF f m (insAt f b a) = 0 := firstF_zero hi a ha
 have g1 : ¬ ((insAt f b a).Op < 0 ∨ 255 < (insAt f b a).Op) := fun hn => by rw [insF_op hn] at hi2; cases hi2
 have g2 : firstF (opdG f m (insAt f b a)) (insAt f b a).Operands.length = 0 := Classical.byContradiction fun hn => by rw [insF_a g1 rfl hn] at hi2; exact hn hi2
 have g3 : firstF (reuG f (insAt f b a)) (insAt f b a).Operands.length = 0 := Classical.byContradiction fun hn => by rw [insF_b g1 g2 rfl hn] at hi2; exact hn hi2
 exact opsAll_of (opsOk_of (Classical.byContradiction fun hn => hn (by rw [chkF_1 hn] at h; exact h)) (hz.ops b a hb ha) g2) (hz.spo b a hb ha) g3
set_option maxHeartbeats 2000000 in
theorem c_jlimit (f : Fun) (x : Ins) (hx : OpsAll f x) (p : List Plc) (hp : p.length = x.Operands.length) (k : Nat) (hk : k < x.Operands.length) :
  ACallIs B.P 101 [f.av, x.av, roL 3 Plc.cells p, .i64 k] (.i64 (lim1 f (x.Operands.getD k default) (p.getD k default) p)) := by
 have hkp : k < p.length := by rw [hp]; exact hk
 have hv := idx_ok (hx.ok.val k hk)
 have hr := hx.reu k hk
 refine ACallIs.enter B _ _ Try.func101 rfl rfl Try.ntmps101 Try.results101 rfl fun hreal => ?_
 clear hreal
 repeat (first|apply zq|apply zb|apply zk)
 apply zr;intro _
 refine AWp.freezeObj 4 rfl rfl ?_
 refine AWp.freezeObj 5 rfl rfl ?_
 repeat (first|apply zq|apply zb|apply zk)
 refine AWp.quietP (.q 0 (.q 1 (.q 2 (.q 3 (.q 4 (.q 5 (.q 6 (.q 7 (.q 8 (.c 9 false (.c 10 false (.c 11 false (.c 12 true .fin .no) .no) .no) (.c 10 false (.c 9 false (.c 11 false (.c 12 true .fin .no) .no) .no) .no))))))))))) [0, 1, 2, 3, 4, 5, 6, 7, 8] [] mixed (by kernel_rfl) ?_
 repeat' (first|exact zt|refine zi ?_ ?_|fail)
 all_goals first|exact fun _ => nn (hk)|exact fun _ => nn (hkp)|skip
 intro _
 refine AWp.freezeObj 9 rfl rfl ?_
 refine AWp.freezeObj 10 rfl rfl ?_
 repeat (first|apply zq|apply zb|apply zk)
 refine AWp.quietP (.q 0 (.q 1 (.q 2 (.q 3 (.q 4 (.q 5 (.q 6 (.q 7 (.q 8 (.q 9 (.q 10 (.q 11 (.q 12 (.q 13 .fin)))))))))))))) [0, 1, 2, 3, 4, 5, 6, 7, 8, 9, 10, 11, 12, 13] [] mixed (by kernel_rfl) ?_
 repeat' (first|exact zt|refine zi ?_ ?_|fail)
 all_goals first|exact fun _ => hv|skip
 intro _
 repeat' (first
  | apply zq | apply zb | apply zk | apply ze
  | apply zr | refine AWp.draw mixed (by kernel_rfl) ?_
  | refine AWp.cond (zi (fun h => ?_) (fun h => ?_))
  | refine AWp.ret ⟨Or.inl rfl, rfl, ?_⟩
  | exact zt | refine zi ?_ ?_ | intro _)
 all_goals first|assumption|(intros; assumption)|(exfalso; simp_all; done)|(simp_all [tupOf, lim1, limB, cls]; done)|(simp_all [tupOf, lim1, limB, cls, samB, bif_if]; done)|(simp only [Int.toNat_natCast] at *; simp_all [tupOf, lim1, limB, cls, samB, bif_if]; try omega)|skip
def spB (x : Ins) (o : Opd) (q : Plc) : Bool := bif (bif q.Kind == 1 then (bif o.Late then true else o.Kind == 2) else false) then oneR x.Spoils ⟨q.Class, q.N⟩ else false
def reuP (o w : Opd) (j k : Nat) : Bool := bif (bif o.Limit == 5 then o.N == (j : Int) else false) then true else (bif w.Limit == 5 then w.N == (k : Int) else false)
def ovB (x : Ins) (p : List Plc) (k j : Nat) : Bool := bif (bif samB (p.getD j default) (p.getD k default) then apartB (x.Operands.getD k default) (x.Operands.getD j default) else false) then !reuP (x.Operands.getD k default) (x.Operands.getD j default) j k else false
def claB (x : Ins) (p : List Plc) (k : Nat) : Bool := spB x (x.Operands.getD k default) (p.getD k default) || anyB (ovB x p k) k
def limF (f : Fun) (x : Ins) (p : List Plc) (k : Nat) : Int := if lim1 f (x.Operands.getD k default) (p.getD k default) p ≠ 0 then lim1 f (x.Operands.getD k default) (p.getD k default) p else if claB x p k = true then 12 else 0
set_option maxHeartbeats 2000000 in
theorem c_jclash (f : Fun) (x : Ins) (hx : OpsAll f x) (p : List Plc) (hp : p.length = x.Operands.length) (k : Nat) (hk : k < x.Operands.length) :
  ACallIs B.P 103 [x.av, roL 3 Plc.cells p, .i64 k] (.bool (claB x p k)) := by
 have hkp : k < p.length := by rw [hp]; exact hk
 have hl6 := hx.ok.len
 have hkm : k ≤ maxLen := by unfold maxLen; omega
 have hsm : x.Spoils.length ≤ maxLen := by have := hx.spo; unfold maxLen; omega
 have hcs := c_ContainsReg x.Spoils ⟨(p.getD k default).Class, (p.getD k default).N⟩ hsm
 refine ACallIs.enter B _ _ Try.func103 rfl rfl Try.ntmps103 Try.results103 rfl fun hreal => ?_
 clear hreal
 repeat (first|apply zq|apply zb|apply zk)
 apply zr;intro _
 refine AWp.freezeObj 3 rfl rfl ?_
 repeat (first|apply zq|apply zb|apply zk)
 refine AWp.mono (Q := fun e s => e = .normal ∧ Sub ⟨[(1, roL 3 Plc.cells p), (2, .i64 k), (3, .ptr x.cells), (7, .obj 7 0), (8, .obj 8 0)], [(7, .cells (x.Operands.getD k default).cells), (8, .cells (p.getD k default).cells)]⟩ s) ?_ ?_
 ·refine AWp.quietP (.q 0 (.q 1 (.q 2 (.q 3 (.q 4 (.q 5 (.q 6 (.q 7 (.q 8 (.c 9 false (.c 10 false (.c 11 false (.c 12 true .fin .no) .no) .no) (.c 10 false (.c 9 false (.c 11 false (.c 12 true .fin .no) .no) .no) .no))))))))))) [0, 1, 2, 3, 4, 5, 6, 7, 8] [] mixed (by kernel_rfl) ?_
  repeat' (first|exact zt|refine zi ?_ ?_|fail)
  all_goals first|exact fun _ => nn (hk)|exact fun _ => nn (hkp)|skip
  all_goals
   intro _
   refine zi rfl ?_
   refine zi ?_ (zi rfl (zi ?_ (zi rfl (zi ?_ zt))))
   all_goals repeat' (first|exact rfl|exact zt|apply zi)
 rintro _ _ ⟨rfl, hs⟩
 refine AWp.weaken hs ?_
 refine AWp.freezeObj 7 rfl rfl ?_
 refine AWp.freezeObj 8 rfl rfl ?_
 repeat (first|apply zq|apply zb|apply zk)
 apply zr
 repeat' (first|exact zt|refine zi ?_ ?_|refine CallK.intro (fun _ => hcs) ?_|fail)
 all_goals first|exact fun h => h|exact gT|exact gF|exact gN|exact gA|skip
 intro _
 repeat (first|apply zq|apply zb|apply zk)
 refine AWp.cond (zi (fun h1 => ?_) (fun h1 => ?_))
 ·have h1 : spB x (x.Operands.getD k default) (p.getD k default) = true := h1
  repeat (first|apply zq|apply zb|apply zk)
  apply zr;intro _
  refine AWp.ret ⟨Or.inl rfl, rfl, ?_⟩
  intro _
  refine tupB ?_
  unfold claB; rw [h1]; rfl
 have h1 : spB x (x.Operands.getD k default) (p.getD k default) = false := h1
 repeat (first|apply zq|apply zb|apply zk)
 apply zr
 repeat' (first|exact zt|refine zi ?_ ?_|fail)
 all_goals first|exact fun _ => zi (Int.le_refl _) (zi (Int.natCast_nonneg _) (Int.ofNat_le.2 (Nat.le_of_lt hk)))|skip
 intro _
 repeat (first|apply zq|apply zb|apply zk)
 refine AWp.loop (fun i : Nat => ⟨[(1, roL 3 Plc.cells p), (2, .i64 k), (3, .ptr x.cells), (7, .ptr (x.Operands.getD k default).cells), (8, .ptr (p.getD k default).cells), (46, .ro 5 (k - 0) (fun j => (x.Operands.getD (0 + j) default).cells)), (47, .i64 k), (48, .i64 i)], []⟩) (fun i => i ≤ k ∧ ∀ j, j < i → ovB x p k j = false) (fun i => k - i) 0 ⟨Nat.zero_le _, fun j h => absurd h (Nat.not_lt_zero _)⟩ ?_ ?_
 ·refine zi ?_ zt
  repeat' (first|exact rfl|exact zt|apply zi)
 rintro i ⟨hi, hn⟩
 repeat (first|apply zq|apply zb|apply zk)
 apply zr;intro _
 repeat (first|apply zq|apply zb|apply zk)
 refine AWp.cond (zi (fun h2 => ?_) (fun h2 => ?_))
 ·have hi' : i < k := Int.ofNat_lt.1 (of_decide_eq_true h2)
  have hip : i < p.length := by omega
  have hz : x.Operands.getD (0 + i) default = x.Operands.getD i default := by rw [Nat.zero_add]
  have hcm := c_Meet (x.Operands.getD k default) (x.Operands.getD (0 + i) default)
  repeat (first|apply zq|apply zb|apply zk)
  apply zr
  repeat' (first|exact zt|refine zi ?_ ?_|fail)
  all_goals first|exact fun _ => nn (hi')|skip
  intro _
  refine AWp.freezeObj 10 rfl rfl ?_
  repeat (first|apply zq|apply zb|apply zk)
  apply zr
  repeat' (first|exact zt|refine zi ?_ ?_|fail)
  all_goals first|exact fun h => h|exact gT|exact gF|exact gN|exact gA|skip
  intro _
  repeat (first|apply zq|apply zb|apply zk)
  refine AWp.quietP (.q 0 (.q 1 (.q 2 (.q 3 (.q 4 (.q 5 (.q 6 (.q 7 (.q 8 (.c 9 true (.q 10 (.q 11 (.q 12 (.q 13 (.q 14 .fin))))) .no)))))))))) [0, 1, 2, 3, 4, 5, 6, 7, 8, 10, 11, 12, 13, 14] [] mixed (by kernel_rfl) ?_
  repeat' (first|exact zt|refine zi ?_ ?_|refine CallK.intro (fun _ => hcm) ?_|fail)
  all_goals first|exact fun _ => nn (hip)|exact fun h => h|exact gT|exact gF|exact gN|exact gA|skip
  intro _
  repeat (first|apply zq|apply zb|apply zk)
  refine AWp.cond (zi (fun h3 => ?_) (fun h3 => ?_))
  ·have h3 : ovB x p k i = true := by
    unfold ovB
    rw [← hz]
    exact h3
   repeat (first|apply zq|apply zb|apply zk)
   apply zr;intro _
   refine AWp.ret ⟨Or.inl rfl, rfl, ?_⟩
   intro _
   refine tupB ?_
   unfold claB; rw [anyB_hit hi' h3, Bool.or_true]
  ·have h3 : ovB x p k i = false := by
    unfold ovB
    rw [← hz]
    exact h3
   repeat (first|apply zq|apply zb|apply zk)
   apply zr;intro _
   refine round_end (i + 1) ⟨hi', fun j hj => ?_⟩ ?_ (by omega)
   ·by_cases e : j = i
    ·subst e; exact h3
    ·exact hn j (by omega)
   refine zi ?_ zt
   repeat' (first|exact rfl|exact zt|exact congrArg (fun z => some (AV.i64 z)) (wrap_succ hi' hkm)|refine zi ?_ ?_)
 ·have hi3 : ¬ (i : Int) < k := of_decide_eq_false h2
  obtain rfl : i = k := by omega
  apply ze
  repeat (first|apply zq|apply zb|apply zk)
  apply zr;intro _
  refine AWp.ret ⟨Or.inl rfl, rfl, ?_⟩
  intro _
  refine tupB ?_
  unfold claB; rw [h1, anyB_none hn]; rfl
def limN (o : Opd) (q : Plc) (p : List Plc) : Bool :=
 bif (bif (bif (bif o.Limit == 2 then q.Kind != 1 else false) then true else (bif o.Limit == 3 then q.Kind != 2 else false)) then true else (bif o.Limit == 4 then (bif q.Kind != 1 then true else q.N != o.N) else false)) then true else (bif o.Limit == 5 then !samB q (p.getD o.N.toNat default) else false)
theorem limN_is {o : Opd} {q : Plc} {p : List Plc} : limN o q p = !limB o q p := by
 unfold limN limB
 by_cases h2 : o.Limit = 2
 ·rw [if_pos h2, h2]; by_cases h : q.Kind = 1 <;> simp [h]
 by_cases h3 : o.Limit = 3
 ·rw [if_neg h2, if_pos h3, h3]; by_cases h : q.Kind = 2 <;> simp [h]
 by_cases h4 : o.Limit = 4
 ·rw [if_neg h2, if_neg h3, if_pos h4, h4]; by_cases h : q.Kind = 1 <;> by_cases g : q.N = o.N <;> simp [h, g]
 by_cases h5 : o.Limit = 5
 ·rw [if_neg h2, if_neg h3, if_neg h4, if_pos h5, h5]; simp
 ·rw [if_neg h2, if_neg h3, if_neg h4, if_neg h5]; simp [h2, h3, h4, h5]
set_option maxHeartbeats 2000000 in
theorem c_limitFault (f : Fun) (x : Ins) (hx : OpsAll f x) (p : List Plc) (hp : p.length = x.Operands.length) (k : Nat) (hk : k < x.Operands.length) :
  ACallIs B.P 62 [f.av, x.av, roL 3 Plc.cells p, .i64 k] (.i64 (limF f x p k)) := by
 have hkp : k < p.length := by rw [hp]; exact hk
 have hl6 := hx.ok.len
 have hkm : k ≤ maxLen := by unfold maxLen; omega
 have hsm : x.Spoils.length ≤ maxLen := by have := hx.spo; unfold maxLen; omega
 have hv := idx_ok (hx.ok.val k hk)
 have hr : (x.Operands.getD k default).Limit = 5 → 0 ≤ (x.Operands.getD k default).N ∧ (x.Operands.getD k default).N < p.length := by rw [hp]; exact hx.reu k hk
 have hcl := c_classOf f _ (hx.ok.val k hk)
 have hcs := c_spoilt x ⟨(p.getD k default).Class, (p.getD k default).N⟩ hsm
 refine ACallIs.enter B _ _ Try.func62 rfl rfl Try.ntmps62 Try.results62 rfl fun hreal => ?_
 clear hreal
 repeat (first|apply zq|apply zb|apply zk)
 apply zr;intro _
 refine AWp.freezeObj 4 rfl rfl ?_
 refine AWp.freezeObj 5 rfl rfl ?_
 repeat (first|apply zq|apply zb|apply zk)
 apply zr
 repeat' (first|exact zt|refine zi ?_ ?_|fail)
 all_goals first|exact fun _ => nn (hk)|skip
 intro _
 refine AWp.freezeObj 9 rfl rfl ?_
 repeat (first|apply zq|apply zb|apply zk)
 apply zr
 repeat' (first|exact zt|refine zi ?_ ?_|fail)
 all_goals first|exact fun _ => nn (hkp)|skip
 intro _
 refine AWp.freezeObj 10 rfl rfl ?_
 repeat (first|apply zq|apply zb|apply zk)
 refine AWp.quietP (.q 0 (.q 1 (.q 2 (.q 3 (.q 4 (.q 5 (.q 6 (.q 7 (.q 8 (.c 9 false (.q 10 (.q 11 .fin)) .no)))))))))) [0, 1, 2, 3, 4, 5, 6, 7, 8, 10, 11] [] mixed (by kernel_rfl) ?_
 repeat' (first|exact zt|refine zi ?_ ?_|refine CallK.intro (fun _ => hcl) ?_|fail)
 all_goals first|exact fun h => h|exact gT|exact gF|exact gN|exact gA|skip
 intro _
 repeat (first|apply zq|apply zb|apply zk)
 refine AWp.cond (zi (fun h1 => ?_) (fun h1 => ?_))
 ·have h1 : (bif (p.getD k default).Kind == 1 then (p.getD k default).Class != cls f (x.Operands.getD k default).Value else false) = true := h1
  have h9 : lim1 f (x.Operands.getD k default) (p.getD k default) p = 17 := if_pos (by simpa [bif_if] using h1)
  repeat (first|apply zq|apply zb|apply zk)
  apply zr;intro _
  refine AWp.ret ⟨Or.inl rfl, rfl, ?_⟩
  intro _
  refine tupI ?_
  unfold limF
  rw [h9]; rfl
 have h1 : (bif (p.getD k default).Kind == 1 then (p.getD k default).Class != cls f (x.Operands.getD k default).Value else false) = false := h1
 have h9 : lim1 f (x.Operands.getD k default) (p.getD k default) p = if limB (x.Operands.getD k default) (p.getD k default) p = true then 0 else 13 := if_neg (by simpa [bif_if] using h1)
 repeat (first|apply zq|apply zb|apply zk)
 refine AWp.quietP (.q 0 (.q 1 (.q 2 (.q 3 (.q 4 (.q 5 (.q 6 (.q 7 (.q 8 (.q 9 (.q 10 (.q 11 (.q 12 (.q 13 (.q 14 (.q 15 (.q 16 (.q 17 (.q 18 (.q 19 (.q 20 (.q 21 (.q 22 (.q 23 (.q 24 (.q 25 (.q 26 (.q 27 (.q 28 (.q 29 (.q 30 (.q 31 (.q 32 (.q 33 (.q 34 (.q 35 (.q 36 (.q 37 (.q 38 (.q 39 (.q 40 (.q 41 (.q 42 (.q 43 (.q 44 (.q 45 (.q 46 (.q 47 (.q 48 .fin))))))))))))))))))))))))))))))))))))))))))))))))) [0, 1, 2, 3, 4, 5, 6, 7, 8, 9, 10, 11, 12, 13, 14, 15, 16, 17, 18, 19, 20, 21, 22, 23, 24, 25, 26, 27, 28, 29, 30, 31, 32, 33, 34, 35, 36, 37, 38, 39, 40, 41, 42, 43, 44, 45, 46, 47, 48] [] mixed (by kernel_rfl) ?_
 repeat' (first|exact zt|refine zi ?_ ?_|fail)
 all_goals first|exact fun h => h|exact gT|exact gF|exact gN|exact gA|(intro h; simp only [Bool.and_eq_true] at h; exact hr (by simpa using h.2))|skip
 intro _
 repeat (first|apply zq|apply zb|apply zk)
 refine AWp.cond (zi (fun h2 => ?_) (fun h2 => ?_))
 ·have h2 : limN (x.Operands.getD k default) (p.getD k default) p = true := h2
  rw [limN_is] at h2
  have h8 : lim1 f (x.Operands.getD k default) (p.getD k default) p = 13 := by rw [h9, if_neg (by simpa using h2)]
  repeat (first|apply zq|apply zb|apply zk)
  apply zr;intro _
  refine AWp.ret ⟨Or.inl rfl, rfl, ?_⟩
  intro _
  refine tupI ?_
  unfold limF
  rw [h8]; rfl
 have h2 : limN (x.Operands.getD k default) (p.getD k default) p = false := h2
 rw [limN_is] at h2
 have h8 : lim1 f (x.Operands.getD k default) (p.getD k default) p = 0 := by rw [h9, if_pos (by simpa using h2)]
 have h7 : limF f x p k = if claB x p k = true then 12 else 0 := by unfold limF; rw [h8, if_neg (fun h => h rfl)]
 repeat (first|apply zq|apply zb|apply zk)
 apply zr
 repeat' (first|exact zt|refine zi ?_ ?_|refine CallK.intro (fun _ => hcs) ?_|fail)
 all_goals first|exact fun h => h|exact gT|exact gF|exact gN|exact gA|skip
 intro _
 repeat (first|apply zq|apply zb|apply zk)
 refine AWp.cond (zi (fun h3 => ?_) (fun h3 => ?_))
 ·have h3 : spB x (x.Operands.getD k default) (p.getD k default) = true := h3
  repeat (first|apply zq|apply zb|apply zk)
  apply zr;intro _
  refine AWp.ret ⟨Or.inl rfl, rfl, ?_⟩
  intro _
  refine tupI ?_
  rw [h7, if_pos (by unfold claB; rw [h3]; rfl)]
 have h3 : spB x (x.Operands.getD k default) (p.getD k default) = false := h3
 repeat (first|apply zq|apply zb|apply zk)
 apply zr;intro _
 repeat (first|apply zq|apply zb|apply zk)
 refine AWp.loop (fun i : Nat => ⟨[(2, roL 3 Plc.cells p), (3, .i64 k), (5, .ptr x.cells), (9, .ptr (x.Operands.getD k default).cells), (10, .ptr (p.getD k default).cells), (11, .i64 i)], []⟩) (fun i => i ≤ k ∧ ∀ j, j < i → ovB x p k j = false) (fun i => k - i) 0 ⟨Nat.zero_le _, fun j h => absurd h (Nat.not_lt_zero _)⟩ ?_ ?_
 ·refine zi ?_ zt
  repeat' (first|exact rfl|exact zt|apply zi)
 rintro i ⟨hi, hn⟩
 repeat (first|apply zq|apply zb|apply zk)
 apply zr;intro _
 repeat (first|apply zq|apply zb|apply zk)
 refine AWp.cond (zi (fun h4 => ?_) (fun h4 => ?_))
 ·have hi' : i < k := Int.ofNat_lt.1 (of_decide_eq_true h4)
  have hip : i < p.length := by omega
  have hix : i < x.Operands.length := by omega
  have hcm := c_Apart (x.Operands.getD k default) (x.Operands.getD i default)
  have nx : ovB x p k i = false → ∀ j, j < i + 1 → ovB x p k j = false := fun g j hj => by
   by_cases e : j = i
   ·subst e; exact g
   ·exact hn j (by omega)
  repeat (first|apply zq|apply zb|apply zk)
  apply zr
  repeat' (first|exact zt|refine zi ?_ ?_|fail)
  all_goals first|exact fun _ => nn (hix)|skip
  intro _
  refine AWp.freezeObj 12 rfl rfl ?_
  repeat (first|apply zq|apply zb|apply zk)
  apply zr
  repeat' (first|exact zt|refine zi ?_ ?_|fail)
  all_goals first|exact fun h => h|exact gT|exact gF|exact gN|exact gA|skip
  intro _
  repeat (first|apply zq|apply zb|apply zk)
  refine AWp.cond (zi (fun h5 => ?_) (fun h5 => ?_))
  ·have h5 : reuP (x.Operands.getD k default) (x.Operands.getD i default) i k = true := h5
   have h6 : ovB x p k i = false := by
    unfold ovB
    rw [h5]
    cases (bif samB (p.getD i default) (p.getD k default) then apartB (x.Operands.getD k default) (x.Operands.getD i default) else false) <;> rfl
   apply ze
   repeat (first|apply zq|apply zb|apply zk)
   apply zr;intro _
   refine round_end (i + 1) ⟨hi', nx h6⟩ ?_ (by omega)
   refine zi ?_ zt
   repeat' (first|exact rfl|exact zt|exact congrArg (fun z => some (AV.i64 z)) (wrap_succ hi' hkm)|refine zi ?_ ?_)
  have h5 : reuP (x.Operands.getD k default) (x.Operands.getD i default) i k = false := h5
  repeat (first|apply zq|apply zb|apply zk)
  refine AWp.quietP (.q 0 (.q 1 (.q 2 (.q 3 (.q 4 (.q 5 (.q 6 (.q 7 (.q 8 (.c 9 true (.q 10 .fin) .no)))))))))) [0, 1, 2, 3, 4, 5, 6, 7, 8, 10] [] mixed (by kernel_rfl) ?_
  repeat' (first|exact zt|refine zi ?_ ?_|refine CallK.intro (fun _ => hcm) ?_|fail)
  all_goals first|exact fun _ => nn (hip)|exact fun h => h|exact gT|exact gF|exact gN|exact gA|skip
  intro _
  repeat (first|apply zq|apply zb|apply zk)
  refine AWp.cond (zi (fun h6 => ?_) (fun h6 => ?_))
  ·have h6 : (bif samB (p.getD i default) (p.getD k default) then apartB (x.Operands.getD k default) (x.Operands.getD i default) else false) = true := h6
   have h6 : ovB x p k i = true := by unfold ovB; rw [h5, h6]; rfl
   repeat (first|apply zq|apply zb|apply zk)
   apply zr;intro _
   refine AWp.ret ⟨Or.inl rfl, rfl, ?_⟩
   intro _
   refine tupI ?_
   rw [h7, if_pos (by unfold claB; rw [anyB_hit hi' h6, Bool.or_true])]
  ·have h6 : (bif samB (p.getD i default) (p.getD k default) then apartB (x.Operands.getD k default) (x.Operands.getD i default) else false) = false := h6
   have h6 : ovB x p k i = false := by unfold ovB; rw [h6]; rfl
   repeat (first|apply zq|apply zb|apply zk)
   apply zr;intro _
   refine round_end (i + 1) ⟨hi', nx h6⟩ ?_ (by omega)
   refine zi ?_ zt
   repeat' (first|exact rfl|exact zt|exact congrArg (fun z => some (AV.i64 z)) (wrap_succ hi' hkm)|refine zi ?_ ?_)
 ·have hi3 : ¬ (i : Int) < k := of_decide_eq_false h4
  obtain rfl : i = k := by omega
  apply ze
  repeat (first|apply zq|apply zb|apply zk)
  apply zr;intro _
  refine AWp.ret ⟨Or.inl rfl, rfl, ?_⟩
  intro _
  refine tupI ?_
  rw [h7, if_neg (by unfold claB; rw [h3, anyB_none hn]; decide)]
structure Bef (mI : Nat → Nat) (mO : Nat → Nat → Nat) (P : Nat → Nat → Nat → Prop) (b a k : Nat) : Prop where
 hb : ∀ b', b' < b → ∀ a k, a < mI b' → k < mO b' a → ¬ P b' a k
 ha : ∀ a', a' < a → ∀ k, k < mO b a' → ¬ P b a' k
 hk : ∀ k', k' < k → ¬ P b a k'
def Fst3 (n : Nat) (mI : Nat → Nat) (mO : Nat → Nat → Nat) (P : Nat → Nat → Nat → Prop) : Option (Nat × Nat × Nat) → Prop
 | none => ∀ b a k, b < n → a < mI b → k < mO b a → ¬ P b a k
 | some (b, a, k) => (b < n ∧ a < mI b ∧ k < mO b a) ∧ P b a k ∧ Bef mI mO P b a k
section
variable {n : Nat} {mI : Nat → Nat} {mO : Nat → Nat → Nat} {P : Nat → Nat → Nat → Prop} {r : Option (Nat × Nat × Nat)} {b a k : Nat}
theorem Fst3.hit (h : Fst3 n mI mO P r) (hb : b < n) (ha : a < mI b) (hk : k < mO b a) (hp : P b a k) (hf : Bef mI mO P b a k) : r = some (b, a, k) := by
 match r, h with
 | none, h => exact absurd hp (h b a k hb ha hk)
 | some (b', a', k'), ⟨⟨h1, h2, h3⟩, h4, h5⟩ =>
  have e1 : b' = b := by
   rcases Nat.lt_trichotomy b' b with g | g | g
   ·exact absurd h4 (hf.hb b' g a' k' h2 h3)
   ·exact g
   ·exact absurd hp (h5.hb b g a k ha hk)
  subst e1
  have e2 : a' = a := by
   rcases Nat.lt_trichotomy a' a with g | g | g
   ·exact absurd h4 (hf.ha a' g k' h3)
   ·exact g
   ·exact absurd hp (h5.ha a g k hk)
  subst e2
  have e3 : k' = k := by
   rcases Nat.lt_trichotomy k' k with g | g | g
   ·exact absurd h4 (hf.hk k' g)
   ·exact g
   ·exact absurd hp (h5.hk k g)
  rw [e3]
theorem Fst3.all (h : Fst3 n mI mO P r) (hf : ∀ b', b' < n → ∀ a k, a < mI b' → k < mO b' a → ¬ P b' a k) : r = none := by
 match r, h with
 | none, h => rfl
 | some (b', a', k'), ⟨⟨h1, h2, h3⟩, h4, h5⟩ => exact absurd h4 (hf b' h1 a' k' h2 h3)
theorem fst3_ex (n : Nat) (mI : Nat → Nat) (mO : Nat → Nat → Nat) (P : Nat → Nat → Nat → Prop) : ∃ r, Fst3 n mI mO P r := by
 by_cases h : ∃ b, b < n ∧ ∃ a, a < mI b ∧ ∃ k, k < mO b a ∧ P b a k
 ·obtain ⟨b, ⟨hb, ha⟩, h1⟩ := least h
  obtain ⟨a, ⟨ha, hk⟩, h2⟩ := least ha
  obtain ⟨k, ⟨hk, hp⟩, h3⟩ := least hk
  refine ⟨some (b, a, k), ⟨hb, ha, hk⟩, hp, fun b' hb' a' k' ha' hk' hp' => ?_, fun a' ha' k' hk' hp' => ?_, fun k' hk' hp' => ?_⟩
  ·have := h1 b' ⟨by omega, a', ha', k', hk', hp'⟩; omega
  ·have := h2 a' ⟨by omega, k', hk', hp'⟩; omega
  ·have := h3 k' ⟨by omega, hp'⟩; omega
 ·exact ⟨none, fun b a k hb ha hk hp => h ⟨b, hb, a, ha, k, hk, hp⟩⟩
end
@[reducible] def fltV (b a k c : Int) : AV := .agg [.i64 b, .i64 a, .i64 k, .i64 c]
@[reducible] def nIn (f : Fun) (b : Nat) : Nat := (f.Blocks.getD b default).Instrs.length
@[reducible] def nOp (f : Fun) (b a : Nat) : Nat := (insAt f b a).Operands.length
@[reducible] def limA (f : Fun) (o : Oup) (b a k : Nat) : Int := limF f (insAt f b a) (plAt o b a) k
def fltR (c : Nat → Nat → Nat → Int) : Option (Nat × Nat × Nat) → AV
 | none => fltV 0 0 0 0
 | some (b, a, k) => fltV b a k (c b a k)
theorem c_jfault (b a k c : Int) : ACallIs B.P 102 [.i64 b, .i64 a, .i64 k, .i64 c] (fltV b a k c) := by
 refine ACallIs.enter B _ _ Try.func102 rfl rfl Try.ntmps102 Try.results102 rfl fun hreal => ?_
 clear hreal
 repeat (first|apply zq|apply zb|apply zk)
 apply zr;intro _
 repeat (first|apply zq|apply zb|apply zk)
 apply zr;intro _
 refine AWp.ret ⟨Or.inl rfl, rfl, ?_⟩
 intro _
 rfl
def OkK (P : Nat → Nat → Nat → Prop) (b a k : Nat) : Prop := ∀ k', k' < k → ¬ P b a k'
def OkI (f : Fun) (P : Nat → Nat → Nat → Prop) (b a : Nat) : Prop := ∀ a', a' < a → ∀ k, k < nOp f b a' → ¬ P b a' k
def OkJ (f : Fun) (P : Nat → Nat → Nat → Prop) (b : Nat) : Prop := ∀ b', b' < b → ∀ a k, a < nIn f b' → k < nOp f b' a → ¬ P b' a k
section
variable {f : Fun} {P : Nat → Nat → Nat → Prop} {b a k : Nat}
theorem OkK.succ (h : OkK P b a k) (g : ¬ P b a k) : OkK P b a (k + 1) := fun k' hk => by
 by_cases e : k' = k
 ·subst e; exact g
 ·exact h k' (by omega)
theorem OkI.succ (h : OkI f P b a) (g : OkK P b a (nOp f b a)) : OkI f P b (a + 1) := fun a' ha => by
 by_cases e : a' = a
 ·subst e; exact g
 ·exact h a' (by omega)
theorem OkJ.succ (h : OkJ f P b) (g : OkI f P b (nIn f b)) : OkJ f P (b + 1) := fun b' hb => by
 by_cases e : b' = b
 ·subst e; exact fun a k ha hk => g a ha k hk
 ·exact h b' (by omega)
end
@[reducible] def LimP (f : Fun) (o : Oup) (b a k : Nat) : Prop := limA f o b a k ≠ 0
theorem fltR_pure {c : Nat → Nat → Nat → Int} : ∀ r, (fltR c r).pureB = true
 | none => rfl
 | some (_, _, _) => rfl
set_option maxHeartbeats 4000000 in
theorem c_limits (f : Fun) (m : Mch) (o : Oup) {fr : Nat} (hO : OutOk f m o fr) {r : Option (Nat × Nat × Nat)} (hr : Fst3 f.Blocks.length (nIn f) (nOp f) (LimP f o) r) :
  ACallIs B.P 60 [f.av, o.av] (fltR (limA f o) r) := by
 have hC := chkd_of hO.chk0
 have hz5 := hC.e.siz
 have hbm : f.Blocks.length ≤ maxLen := by have := hz5.blocks; unfold maxLen; omega
 refine ACallIs.enter B _ _ Try.func60 rfl rfl Try.ntmps60 Try.results60 rfl fun hreal => ?_
 clear hreal
 repeat (first|apply zq|apply zb|apply zk)
 apply zr;intro _
 refine AWp.freezeObj 2 rfl rfl ?_
 refine AWp.freezeObj 3 rfl rfl ?_
 repeat (first|apply zq|apply zb|apply zk)
 apply zr;intro _
 repeat (first|apply zq|apply zb|apply zk)
 refine AWp.loop (fun b : Nat => ⟨[(2, .ptr f.cells), (3, .ptr o.cells), (4, .obj 4 0), (12, roL 3 Blk.cells f.Blocks), (13, .i64 f.Blocks.length), (14, .i64 b)], [(4, .cells [.i64 0, .i64 0, .i64 0, .i64 0])]⟩) (fun b => b ≤ f.Blocks.length ∧ OkJ f (LimP f o) b) (fun b => f.Blocks.length - b) 0 ⟨Nat.zero_le _, fun b' h => absurd h (Nat.not_lt_zero _)⟩ ?_ ?_
 ·refine zi ?_ (zi rfl (zi ?_ zt))
  all_goals repeat' (first|exact rfl|exact zt|apply zi)
 rintro b ⟨hb0, hB⟩
 repeat (first|apply zq|apply zb|apply zk)
 apply zr;intro _
 repeat (first|apply zq|apply zb|apply zk)
 refine AWp.cond (zi (fun h1 => ?_) (fun h1 => ?_))
 ·have hb : b < f.Blocks.length := Int.ofNat_lt.1 (of_decide_eq_true h1)
  have hb2 : b < o.Places.length := by rw [hO.pl]; exact hb
  have him : nIn f b ≤ maxLen := by have := hz5.instrs b hb; show (f.Blocks.getD b default).Instrs.length ≤ _; unfold maxLen; omega
  repeat (first|apply zq|apply zb|apply zk)
  apply zr
  refine zi (fun _ => nn (hb)) ?_
  intro _
  refine AWp.freezeObj 6 rfl rfl ?_
  repeat (first|apply zq|apply zb|apply zk)
  apply zr;intro _
  repeat (first|apply zq|apply zb|apply zk)
  refine AWp.loop (fun a : Nat => ⟨[(2, .ptr f.cells), (3, .ptr o.cells), (4, .obj 4 0), (12, roL 3 Blk.cells f.Blocks), (13, .i64 f.Blocks.length), (14, .i64 b), (5, .i64 b), (20, roL 3 Ins.cells (f.Blocks.getD b default).Instrs), (21, .i64 (nIn f b)), (22, .i64 a)], [(4, .cells [.i64 0, .i64 0, .i64 0, .i64 0])]⟩) (fun a => a ≤ nIn f b ∧ OkI f (LimP f o) b a) (fun a => nIn f b - a) 0 ⟨Nat.zero_le _, fun a' h => absurd h (Nat.not_lt_zero _)⟩ ?_ ?_
  ·refine zi ?_ (zi rfl (zi ?_ zt))
   all_goals repeat' (first|exact rfl|exact zt|apply zi)
  rintro a ⟨ha0, hA⟩
  repeat (first|apply zq|apply zb|apply zk)
  apply zr;intro _
  repeat (first|apply zq|apply zb|apply zk)
  refine AWp.cond (zi (fun h2 => ?_) (fun h2 => ?_))
  ·have ha : a < nIn f b := Int.ofNat_lt.1 (of_decide_eq_true h2)
   have ha2 : a < (o.Places.getD b default).length := by rw [hO.row b hb]; exact ha
   have hom : nOp f b a ≤ maxLen := by have := hz5.ops b a hb ha; show ((f.Blocks.getD b default).Instrs.getD a default).Operands.length ≤ _; unfold maxLen; omega
   have hx := opsAll_at hO.chk0 hb ha
   have hpl := hO.ops b a hb ha
   repeat (first|apply zq|apply zb|apply zk)
   apply zr
   refine zi (fun _ => nn (ha)) ?_
   intro _
   refine AWp.freezeObj 8 rfl rfl ?_
   repeat (first|apply zq|apply zb|apply zk)
   apply zr;intro _
   repeat (first|apply zq|apply zb|apply zk)
   refine AWp.loop (fun k : Nat => ⟨[(2, .ptr f.cells), (3, .ptr o.cells), (4, .obj 4 0), (12, roL 3 Blk.cells f.Blocks), (13, .i64 f.Blocks.length), (14, .i64 b), (5, .i64 b), (20, roL 3 Ins.cells (f.Blocks.getD b default).Instrs), (21, .i64 (nIn f b)), (22, .i64 a), (7, .i64 a), (8, .ptr (insAt f b a).cells), (29, .i64 (nOp f b a)), (30, .i64 k)], [(4, .cells [.i64 0, .i64 0, .i64 0, .i64 0])]⟩) (fun k => k ≤ nOp f b a ∧ OkK (LimP f o) b a k) (fun k => nOp f b a - k) 0 ⟨Nat.zero_le _, fun k' h => absurd h (Nat.not_lt_zero _)⟩ ?_ ?_
   ·refine zi ?_ (zi rfl (zi ?_ zt))
    all_goals repeat' (first|exact rfl|exact zt|apply zi)
   rintro k ⟨hk0, hK⟩
   repeat (first|apply zq|apply zb|apply zk)
   apply zr;intro _
   repeat (first|apply zq|apply zb|apply zk)
   refine AWp.cond (zi (fun h3 => ?_) (fun h3 => ?_))
   ·have hk : k < nOp f b a := Int.ofNat_lt.1 (of_decide_eq_true h3)
    have hc1 := c_jlimit f (insAt f b a) hx (plAt o b a) hpl k hk
    have hc2 := c_jclash f (insAt f b a) hx (plAt o b a) hpl k hk
    have hit : limA f o b a k ≠ 0 → r = some (b, a, k) := fun h => hr.hit hb ha hk h ⟨hB, hA, hK⟩
    repeat (first|apply zq|apply zb|apply zk)
    apply zr;intro _
    repeat (first|apply zq|apply zb|apply zk)
    refine AWp.quietP (.q 0 (.q 1 (.q 2 (.q 3 (.q 4 (.q 5 (.q 6 (.q 7 (.q 8 (.q 9 (.q 10 (.c 11 true (.q 12 .fin) .no)))))))))))) [0, 1, 2, 3, 4, 5, 6, 7, 8, 9, 10, 12] [] mixed (by kernel_rfl) ?_
    repeat' (first|exact zt|refine zi ?_ ?_|refine CallX.pure hc1 rfl rfl rfl ?_|refine CallK.intro (fun _ => hc1) ?_|fail)
    all_goals first|exact fun _ => nn (hb2)|exact fun _ => nn (ha2)|skip
    intro _
    repeat (first|apply zq|apply zb|apply zk)
    apply zr;intro _
    repeat (first|apply zq|apply zb|apply zk)
    refine AWp.cond (zi (fun h4 => ?_) (fun h4 => ?_))
    ·have h4 : lim1 f ((insAt f b a).Operands.getD k default) ((plAt o b a).getD k default) (plAt o b a) ≠ 0 := by simpa using h4
     have h5 : limA f o b a k = lim1 f ((insAt f b a).Operands.getD k default) ((plAt o b a).getD k default) (plAt o b a) := if_pos h4
     have h6 := hit (by rw [h5]; exact h4)
     repeat (first|apply zq|apply zb|apply zk)
     apply zr
     repeat' (first|exact zt|refine zi ?_ ?_|refine CallX.pure (c_jfault b a k _) rfl rfl rfl ?_|fail)
     intro _
     refine AWp.ret ⟨Or.inl rfl, fltR_pure r, ?_⟩
     intro _
     rw [h6]
     show _ = fltV b a k (limA f o b a k)
     rw [h5]
     rfl
    have h4 : lim1 f ((insAt f b a).Operands.getD k default) ((plAt o b a).getD k default) (plAt o b a) = 0 := by simpa using h4
    have h5 : limA f o b a k = if claB (insAt f b a) (plAt o b a) k = true then 12 else 0 := if_neg (fun h => h h4)
    repeat (first|apply zq|apply zb|apply zk)
    refine AWp.quietP (.q 0 (.q 1 (.q 2 (.q 3 (.q 4 (.q 5 (.q 6 (.q 7 (.q 8 (.q 9 (.c 10 true .fin .no))))))))))) [0, 1, 2, 3, 4, 5, 6, 7, 8, 9] [] mixed (by kernel_rfl) ?_
    repeat' (first|exact zt|refine zi ?_ ?_|refine CallX.pure hc2 rfl rfl rfl ?_|refine CallK.intro (fun _ => hc2) ?_|fail)
    all_goals first|exact fun _ => nn (hb2)|exact fun _ => nn (ha2)|skip
    intro _
    repeat (first|apply zq|apply zb|apply zk)
    refine AWp.cond (zi (fun h7 => ?_) (fun h7 => ?_))
    ·have h7 : claB (insAt f b a) (plAt o b a) k = true := h7
     have h8 : limA f o b a k = 12 := by rw [h5, if_pos h7]
     have h6 := hit (by rw [h8]; decide)
     repeat (first|apply zq|apply zb|apply zk)
     apply zr
     repeat' (first|exact zt|refine zi ?_ ?_|refine CallX.pure (c_jfault b a k _) rfl rfl rfl ?_|fail)
     intro _
     refine AWp.ret ⟨Or.inl rfl, fltR_pure r, ?_⟩
     intro _
     rw [h6]
     show _ = fltV b a k (limA f o b a k)
     rw [h8]
     rfl
    have h7 : claB (insAt f b a) (plAt o b a) k = false := h7
    have h8 : ¬ LimP f o b a k := fun hn => hn (by show limA f o b a k = 0; rw [h5, h7]; rfl)
    repeat (first|apply zq|apply zb|apply zk)
    apply zr;intro _
    refine round_end (k + 1) ⟨hk, OkK.succ hK h8⟩ ?_ (by omega)
    refine zi ?_ (zi rfl (zi ?_ zt))
    all_goals repeat' (first|exact rfl|exact zt|exact congrArg (fun z => some (AV.i64 z)) (wrap_succ hk hom)|refine zi ?_ ?_)
   ·have hk3 : ¬ (k : Int) < nOp f b a := of_decide_eq_false h3
    obtain rfl : k = nOp f b a := by omega
    apply ze
    repeat (first|apply zq|apply zb|apply zk)
    apply zr;intro _
    refine round_end (a + 1) ⟨ha, OkI.succ hA hK⟩ ?_ (by omega)
    refine zi ?_ (zi rfl (zi ?_ zt))
    all_goals repeat' (first|exact rfl|exact zt|exact congrArg (fun z => some (AV.i64 z)) (wrap_succ ha him)|refine zi ?_ ?_)
  ·have ha3 : ¬ (a : Int) < nIn f b := of_decide_eq_false h2
   obtain rfl : a = nIn f b := by omega
   apply ze
   repeat (first|apply zq|apply zb|apply zk)
   apply zr;intro _
   refine round_end (b + 1) ⟨hb, OkJ.succ hB hA⟩ ?_ (by omega)
   refine zi ?_ (zi rfl (zi ?_ zt))
   all_goals repeat' (first|exact rfl|exact zt|exact congrArg (fun z => some (AV.i64 z)) (wrap_succ hb hbm)|refine zi ?_ ?_)
 ·have hb3 : ¬ (b : Int) < f.Blocks.length := of_decide_eq_false h1
  obtain rfl : b = f.Blocks.length := by omega
  apply ze
  repeat (first|apply zq|apply zb|apply zk)
  apply zr;intro _
  refine AWp.ret ⟨Or.inl rfl, fltR_pure r, ?_⟩
  intro _
  rw [hr.all hB]
  rfl
theorem idx_split (p : Nat → Bool) (n : Nat) : (∃ k, k < n ∧ p k = true ∧ (∀ j, j < k → p j = false) ∧ idxF p n = (k : Int)) ∨ ((∀ j, j < n → p j = false) ∧ idxF p n = -1) := by
 by_cases h : ∃ k, k < n ∧ p k = true
 ·obtain ⟨k, ⟨hk, hp⟩, h1⟩ := least h
  have hb : ∀ j, j < k → p j = false := fun j hj => Bool.eq_false_iff.2 fun hp' => by have := h1 j ⟨by omega, hp'⟩; omega
  exact .inl ⟨k, hk, hp, hb, idxF_hit hk hb hp⟩
 ·have hb : ∀ j, j < n → p j = false := fun j hj => Bool.eq_false_iff.2 fun hp => h ⟨j, hj, hp⟩
  exact .inr ⟨hb, idxF_none hb⟩
@[reducible] def ValP (f : Fun) (o : Oup) (N : Nat) (b a k : Nat) : Prop := knB f o N b a k = false
set_option maxHeartbeats 16000000 in
theorem m_values (f : Fun) (m : Mch) (o : Oup) (hok : Oup.ok o) {fr k : Nat} (hO : OutOk f m o fr) (hk : k = nW f.Values.length) {r : Option (Nat × Nat × Nat)} (hr : Fst3 f.Blocks.length (nIn f) (nOp f) (ValP f o (22 + fr)) r) :
  ACallM B.P 61 ⟨[.obj 1001 0], jgH f m o f.Blocks.length (fun _ => true) (22 + fr) k (sur f o (22 + fr)), fltR (fun _ _ _ => 14) r, []⟩ := by
 have hC := chkd_of hO.chk0
 have hz5 := hC.e.siz
 have hvl := hz5.values
 have hbl := hz5.blocks
 have hfr := hO.small
 have hkk : k ≤ 1000000 := by subst hk; show (f.Values.length + 63) / 64 ≤ _; omega
 have hbm : f.Blocks.length ≤ maxLen := by unfold maxLen; omega
 refine ACallM.enter B _ _ Try.func61 rfl rfl Try.ntmps61 Try.results61 rfl ?_ fun hreal => ?_
 ·refine zi (zi ?_ (zi (fun q hq => atC_refs fun hv => ⟨q, hq, hv, rfl⟩) (zi (fun z hz c hc => zi (atS_in hz hc) zt) (zi (fun z h => zt) zt)))) (zi (zi rfl zt) (zi zt (zi zt (zi zt (zi zt zt)))))
  repeat' (first|exact rfl|exact zt|apply zi)
 clear hreal
 repeat (first|apply zq|apply zb|apply zk)
 apply zr;intro _
 repeat (first|apply zq|apply zb|apply zk)
 apply zr;intro _
 repeat (first|apply zq|apply zb|apply zk)
 refine AWp.loop (fun b : Nat => ⟨[(0, .obj 1001 0), (2, .obj 2 0), (12, roL 3 Blk.cells f.Blocks), (13, .i64 f.Blocks.length), (14, .i64 b)], [(1001, jgC f m o 1002 f.Blocks.length), (1002, atR 1003 f.Blocks.length (fun _ => true) (22 + fr)), (1003, atS 1004 f.Blocks.length (fun _ => true) (22 + fr) k), (1004, atW f.Blocks.length (fun _ => true) (22 + fr) k (sur f o (22 + fr))), (2, .cells [.i64 0, .i64 0, .i64 0, .i64 0])]⟩) (fun b => b ≤ f.Blocks.length ∧ OkJ f (ValP f o (22 + fr)) b) (fun b => f.Blocks.length - b) 0 ⟨Nat.zero_le _, fun b' h => absurd h (Nat.not_lt_zero _)⟩ ?_ ?_
 ·refine zi ?_ (zi rfl (zi ?_ (zi ⟨_, _, rfl, rfl, fun i h => rfl⟩ (zi (fun q hq => atC_refs fun hv => ⟨q, hq, hv, rfl⟩) (zi ⟨_, _, rfl, fun z h => ⟨h, _, _, rfl, rfl, fun i h => rfl⟩⟩ (zi (fun z hz c hc => zi (atS_in hz hc) zt) (zi ⟨_, _, rfl, fun z h => ⟨h, _, _, rfl, rfl, fun i h => rfl⟩⟩ (zi (fun z h => zt) (zi rfl (zi ?_ zt))))))))))
  all_goals repeat' (first|exact rfl|exact zt|apply zi)
 rintro b ⟨hb0, hB⟩
 repeat (first|apply zq|apply zb|apply zk)
 apply zr;intro _
 repeat (first|apply zq|apply zb|apply zk)
 refine AWp.cond (zi (fun h2 => ?_) (fun h2 => ?_))
 ·have hb : b < f.Blocks.length := Int.ofNat_lt.1 (of_decide_eq_true h2)
  have hb2 : b < o.Places.length := by rw [hO.pl]; exact hb
  have hil : (f.Blocks.getD b default).Instrs.length ≤ 40 := hz5.instrs b hb
  have him : (f.Blocks.getD b default).Instrs.length ≤ maxLen := by unfold maxLen; omega
  repeat (first|apply zq|apply zb|apply zk)
  apply zr
  refine zi (fun _ => nn (hb)) ?_
  intro _
  refine AWp.freezeObj 4 rfl rfl ?_
  refine AWp.weaken (s' := ⟨[(0, .obj 1001 0), (2, .obj 2 0), (12, roL 3 Blk.cells f.Blocks), (13, .i64 f.Blocks.length), (14, .i64 b), (3, .i64 b), (4, .ptr (f.Blocks.getD b default).cells)], [(1001, jgC f m o 1002 f.Blocks.length), (1002, atR 1003 f.Blocks.length (fun _ => true) (22 + fr)), (1003, atS 1004 f.Blocks.length (fun _ => true) (22 + fr) k), (1004, atW f.Blocks.length (fun _ => true) (22 + fr) k (sur f o (22 + fr))), (2, .cells [.i64 0, .i64 0, .i64 0, .i64 0])]⟩) ?_ ?_
  ·refine zi ?_ (zi rfl (zi ?_ (zi (⟨_, _, rfl, rfl, fun i hi => (atC_frz (by rfl)).symm⟩) (zi (fun q hq => atC_refs fun hv => ⟨q, hq, hv, rfl⟩) (zi ⟨_, _, rfl, fun z h => ⟨h, _, _, rfl, rfl, fun i h => rfl⟩⟩ (zi (fun z hz c hc => zi (atS_in hz hc) zt) (zi ⟨_, _, rfl, fun z h => ⟨h, _, _, rfl, rfl, fun i h => rfl⟩⟩ (zi (fun z h => zt) (zi rfl (zi ?_ zt))))))))))
   all_goals repeat' (first|exact rfl|exact zt|apply zi)
  repeat (first|apply zq|apply zb|apply zk)
  apply zr
  repeat' (first|exact zt|refine zi ?_ ?_|refine CallX.lend (m_copiedAt (N := 22 + fr) (by omega) hkk hb rfl (sur f o (22 + fr))) [(1003, 1003), (1004, 1004), (7, 850), (8, 851)] rfl (zi rfl (zi rfl zt)) rfl ?_|rw [hvT]|fail)
  all_goals first|exact fun _ => nn (hb)|exact fun _ => hb|skip
  intro _
  repeat (first|apply zq|apply zb|apply zk)
  apply zr;intro _
  repeat (first|apply zq|apply zb|apply zk)
  refine AWp.loop (fun a : Nat => ⟨[(0, .obj 1001 0), (2, .obj 2 0), (12, roL 3 Blk.cells f.Blocks), (13, .i64 f.Blocks.length), (14, .i64 b), (3, .i64 b), (5, .sl 850 (22 + fr)), (28, roL 3 Ins.cells (f.Blocks.getD b default).Instrs), (29, .i64 (f.Blocks.getD b default).Instrs.length), (30, .i64 a)], [(1001, jgC f m o 1002 f.Blocks.length), (1002, atR 1003 f.Blocks.length (fun _ => true) (22 + fr)), (1003, atS 1004 f.Blocks.length (fun _ => true) (22 + fr) k), (1004, atW f.Blocks.length (fun _ => true) (22 + fr) k (sur f o (22 + fr))), (2, .cells [.i64 0, .i64 0, .i64 0, .i64 0]), (850, stR 851 (22 + fr) k), (851, stW (22 + fr) k (thI f o b (sur f o (22 + fr) b) a))]⟩) (fun a => a ≤ (f.Blocks.getD b default).Instrs.length ∧ OkI f (ValP f o (22 + fr)) b a) (fun a => (f.Blocks.getD b default).Instrs.length - a) 0 ⟨Nat.zero_le _, fun a' h => absurd h (Nat.not_lt_zero _)⟩ ?_ ?_
  ·refine zi ?_ (zi rfl (zi ?_ (zi (⟨_, _, rfl, rfl, fun i hi => (atC_keep (fun _ => by rfl)).symm⟩) (zi (fun q hq => atC_refs fun hv => ⟨q, hq, hv, rfl⟩) (zi ⟨_, _, rfl, fun z h => ⟨h, _, _, rfl, rfl, fun i h => rfl⟩⟩ (zi (fun z hz c hc => zi (atS_in hz hc) zt) (zi ⟨_, _, rfl, fun z h => ⟨h, _, _, rfl, rfl, fun i h => rfl⟩⟩ (zi (fun z h => zt) (zi rfl (zi ?_ (zi ⟨_, _, rfl, rfl, fun i h => rfl⟩ (zi (fun i h => zi ⟨i, h, rfl⟩ zt) (zi ⟨_, _, rfl, fun z h => ⟨h, _, _, rfl, rfl, fun i h => rfl⟩⟩ (zi (fun z h => zt) zt))))))))))))))
   all_goals repeat' (first|exact rfl|exact zt|apply zi)
  rintro a ⟨ha0, hA⟩
  repeat (first|apply zq|apply zb|apply zk)
  apply zr;intro _
  repeat (first|apply zq|apply zb|apply zk)
  refine AWp.cond (zi (fun h3 => ?_) (fun h3 => ?_))
  ·have ha : a < (f.Blocks.getD b default).Instrs.length := Int.ofNat_lt.1 (of_decide_eq_true h3)
   have ha2 : a < (o.Places.getD b default).length := by rw [hO.row b hb]; exact ha
   repeat (first|apply zq|apply zb|apply zk)
   apply zr;intro _
   repeat (first|apply zq|apply zb|apply zk)
   apply zr
   repeat' (first|exact zt|refine zi ?_ ?_|refine CallX.shown (m_jmoves f m o hok hfr hkk (thI f o b (sur f o (22 + fr) b) a) b a hO.mv) [(1001, 850), (1002, 851)] [1001] rfl (zi rfl (zi rfl zt)) rfl rfl (zi (fun q hq => rfl) (zi (fun z hz q hq => rfl) zt)) ?_|fail)
   intro _
   refine AWp.weaken (s' := ⟨[(0, .obj 1001 0), (2, .obj 2 0), (12, roL 3 Blk.cells f.Blocks), (13, .i64 f.Blocks.length), (14, .i64 b), (3, .i64 b), (5, .sl 850 (22 + fr)), (28, roL 3 Ins.cells (f.Blocks.getD b default).Instrs), (29, .i64 (f.Blocks.getD b default).Instrs.length), (30, .i64 a), (6, .i64 a)], [(1001, jgC f m o 1002 f.Blocks.length), (1002, atR 1003 f.Blocks.length (fun _ => true) (22 + fr)), (1003, atS 1004 f.Blocks.length (fun _ => true) (22 + fr) k), (1004, atW f.Blocks.length (fun _ => true) (22 + fr) k (sur f o (22 + fr))), (2, .cells [.i64 0, .i64 0, .i64 0, .i64 0]), (850, stR 851 (22 + fr) k), (851, stW (22 + fr) k (knK f o (22 + fr) b a))]⟩) ?_ ?_
   ·refine zi ?_ (zi rfl (zi ?_ (zi (⟨_, _, rfl, rfl, fun i hi => (atC_keep (fun _ => by rfl)).symm⟩) (zi (fun q hq => atC_refs fun hv => ⟨q, hq, hv, rfl⟩) (zi ⟨_, _, rfl, fun z h => ⟨h, _, _, rfl, rfl, fun i h => rfl⟩⟩ (zi (fun z hz c hc => zi (atS_in hz hc) zt) (zi ⟨_, _, rfl, fun z h => ⟨h, _, _, rfl, rfl, fun i h => rfl⟩⟩ (zi (fun z h => zt) (zi rfl (zi ?_ (zi ⟨_, _, rfl, rfl, fun i h => rfl⟩ (zi (fun i h => zi ⟨i, h, rfl⟩ zt) (zi ⟨_, _, rfl, fun z h => ⟨h, _, _, rfl, rfl, fun i h => rfl⟩⟩ (zi (fun z h => zt) zt))))))))))))))
    all_goals repeat' (first|exact rfl|exact zt|apply zi)
   have hi := idx_split (isB (fun q => !okA f o b a (knK f o (22 + fr) b a) q) true) (insAt f b a).Operands.length
   repeat (first|apply zq|apply zb|apply zk)
   apply zr
   repeat' (first|exact zt|refine zi ?_ ?_|refine CallX.shown (m_jinstr f hC m o hok hfr hk (knK f o (22 + fr) b a) b a hb ha hb2 ha2 (hO.ops b a hb ha) (fun q hq => hO.at_ b a q hb ha hq) (kind_ok hO.chk0 hb ha) (fun q hq => hO.spo b a q hb ha hq)) [(1001, 850), (1002, 851)] [1001] rfl (zi rfl (zi rfl zt)) rfl rfl (zi (fun q hq => rfl) (zi (fun z hz q hq => rfl) zt)) ?_|fail)
   intro _
   repeat (first|apply zq|apply zb|apply zk)
   apply zr;intro _
   rcases hi with ⟨q, hq, hp, hbf, hi⟩ | ⟨hbf, hi⟩
   ·have h6 : r = some (b, a, q) := hr.hit hb ha hq (show okA f o b a (knK f o (22 + fr) b a) q = false by simpa [isB] using hp) ⟨hB, hA, fun k' hk' h => by
     have h : okA f o b a (knK f o (22 + fr) b a) k' = false := h
     have g := hbf k' hk'
     simp only [isB, h] at g
     cases g⟩
    repeat (first|apply zq|apply zb|apply zk)
    refine AWp.cond (zi (fun h4 => ?_) (fun h4 => ?_))
    ·repeat (first|apply zq|apply zb|apply zk)
     apply zr
     repeat' (first|exact zt|refine zi ?_ ?_|refine CallX.pure (c_jfault b a _ 14) rfl rfl rfl ?_|fail)
     intro _
     refine AWp.ret ⟨Or.inl rfl, ?_⟩
     intro _
     rw [h6]
     refine zi ?_ (zi (by repeat' (first|exact zt|refine zi ?_ ?_)) zt)
     show tupOf [AV.agg _] = fltV b a q 14
     exact congrArg (fun z => fltV b a z 14) hi
    ·rw [hi] at h4
     exact absurd h4 (by simp)
   ·repeat (first|apply zq|apply zb|apply zk)
    refine AWp.cond (zi (fun h4 => ?_) (fun h4 => ?_))
    ·rw [hi] at h4
     exact absurd h4 (by decide)
    repeat (first|apply zq|apply zb|apply zk)
    apply zr;intro _
    refine round_end (a + 1) ⟨ha, OkI.succ hA fun k' hk' h => ?_⟩ ?_ (by omega)
    ·have h : okA f o b a (knK f o (22 + fr) b a) k' = false := h
     have g := hbf k' hk'
     simp only [isB, h] at g
     cases g
    refine zi ?_ (zi rfl (zi ?_ (zi (⟨_, _, rfl, rfl, fun i hi => (atC_keep (fun _ => by rfl)).symm⟩) (zi (fun q hq => atC_refs fun hv => ⟨q, hq, hv, rfl⟩) (zi ⟨_, _, rfl, fun z h => ⟨h, _, _, rfl, rfl, fun i h => rfl⟩⟩ (zi (fun z hz c hc => zi (atS_in hz hc) zt) (zi ⟨_, _, rfl, fun z h => ⟨h, _, _, rfl, rfl, fun i h => rfl⟩⟩ (zi (fun z h => zt) (zi rfl (zi ?_ (zi ⟨_, _, rfl, rfl, fun i h => rfl⟩ (zi (fun i h => zi ⟨i, h, rfl⟩ zt) (zi ⟨_, _, rfl, fun z h => ⟨h, _, _, rfl, rfl, fun i h => rfl⟩⟩ (zi (fun z h => zt) zt))))))))))))))
    all_goals repeat' (first|exact rfl|exact zt|exact congrArg (fun z => some (AV.i64 z)) (wrap_succ ha him)|refine zi ?_ ?_)
  ·have ha3 : ¬ (a : Int) < (f.Blocks.getD b default).Instrs.length := of_decide_eq_false h3
   obtain rfl : a = (f.Blocks.getD b default).Instrs.length := by omega
   apply ze
   repeat (first|apply zq|apply zb|apply zk)
   apply zr;intro _
   refine round_end (b + 1) ⟨hb, OkJ.succ hB hA⟩ ?_ (by omega)
   refine zi ?_ (zi rfl (zi ?_ (zi ⟨_, _, rfl, rfl, fun i h => rfl⟩ (zi (fun q hq => atC_refs fun hv => ⟨q, hq, hv, rfl⟩) (zi ⟨_, _, rfl, fun z h => ⟨h, _, _, rfl, rfl, fun i h => rfl⟩⟩ (zi (fun z hz c hc => zi (atS_in hz hc) zt) (zi ⟨_, _, rfl, fun z h => ⟨h, _, _, rfl, rfl, fun i h => rfl⟩⟩ (zi (fun z h => zt) (zi rfl (zi ?_ zt))))))))))
   all_goals repeat' (first|exact rfl|exact zt|exact congrArg (fun z => some (AV.i64 z)) (wrap_succ hb hbm)|refine zi ?_ ?_)
 ·have hb3 : ¬ (b : Int) < f.Blocks.length := of_decide_eq_false h2
  obtain rfl : b = f.Blocks.length := by omega
  apply ze
  repeat (first|apply zq|apply zb|apply zk)
  apply zr;intro _
  refine AWp.ret ⟨Or.inl rfl, ?_⟩
  intro _
  rw [hr.all hB]
  exact zi rfl (zi (by repeat' (first|exact zt|refine zi ?_ ?_)) zt)
def judR (f : Fun) (o : Oup) (r1 r2 : Option (Nat × Nat × Nat)) : AV := match r1 with
 | some x => fltR (limA f o) (some x)
 | none => fltR (fun _ _ _ => 14) r2
theorem judR_pure {f : Fun} {o : Oup} : ∀ r1 r2, (judR f o r1 r2).pureB = true
 | some x, _ => fltR_pure (some x)
 | none, r2 => fltR_pure r2
set_option maxHeartbeats 4000000 in
theorem c_Judge (f : Fun) (m : Mch) (o : Oup) (hf : Fun.ok f) (hok : Oup.ok o) {fr : Nat} (hO : OutOk f m o fr) (h0 : outF f m o = 0) (hA : AllTo f) {r1 r2 : Option (Nat × Nat × Nat)} (hr1 : Fst3 f.Blocks.length (nIn f) (nOp f) (LimP f o) r1) (hr2 : Fst3 f.Blocks.length (nIn f) (nOp f) (ValP f o (22 + fr)) r2) :
  ACallIs B.P 24 [f.av, m.av, o.av] (.tup [judR f o r1 r2, .i64 0]) := by
 have hc := c_MachCheck f m o hf hok
 rw [h0] at hc
 have hC := chkd_of hO.chk0
 have hfr := hO.small
 have hl := c_limits f m o hO hr1
 obtain ⟨k, hk⟩ : ∃ k, k = nW f.Values.length := ⟨_, rfl⟩
 rcases r1 with _ | ⟨b, a, q⟩
 ·have hpu : (judR f o none r2).pureB = true := judR_pure _ _
  refine ACallIs.enter B _ _ Try.func24 rfl rfl Try.ntmps24 Try.results24 rfl fun hreal => ?_
  clear hreal
  repeat (first|apply zq|apply zb|apply zk)
  apply zr;intro _
  refine AWp.freezeObj 3 rfl rfl ?_
  refine AWp.freezeObj 4 rfl rfl ?_
  refine AWp.freezeObj 5 rfl rfl ?_
  repeat (first|apply zq|apply zb|apply zk)
  apply zr
  refine CallX.pure hc rfl rfl rfl ?_
  intro _
  repeat (first|apply zq|apply zb|apply zk)
  apply zr;intro _
  repeat (first|apply zq|apply zb|apply zk)
  refine AWp.cond (zi (fun h1 => ?_) (fun h1 => ?_))
  ·cases h1
  repeat (first|apply zq|apply zb|apply zk)
  apply zr
  repeat' (first|exact zt|refine zi ?_ ?_|refine CallX.pure hl rfl rfl rfl ?_|fail)
  intro _
  refine AWp.freezeObj 9 rfl rfl ?_
  repeat (first|apply zq|apply zb|apply zk)
  apply zr;intro _
  repeat (first|apply zq|apply zb|apply zk)
  refine AWp.cond (zi (fun h2 => ?_) (fun h2 => ?_))
  ·cases h2
  repeat (first|apply zq|apply zb|apply zk)
  apply zr;intro _
  repeat (first|apply zq|apply zb|apply zk)
  apply zr
  repeat' (first|exact zt|refine zi ?_ ?_|refine CallX.lend (m_settle f hC m o hok hfr hk hO hA) [(1001, 30), (14, 14), (860, 860), (861, 861)] rfl (zi rfl zt) rfl ?_|fail)
  intro _
  refine AWp.weaken (s' := ⟨[(6, .obj 6 0), (10, .obj 30 0)], [(6, .cells [.i64 0, .i64 0, .i64 0, .i64 0]), (30, jgC f m o 14 f.Blocks.length), (14, atR 860 f.Blocks.length (fun _ => true) (22 + fr)), (860, atS 861 f.Blocks.length (fun _ => true) (22 + fr) k), (861, atW f.Blocks.length (fun _ => true) (22 + fr) k (sur f o (22 + fr)))]⟩) ?_ ?_
  ·refine zi ?_ (zi rfl (zi ?_ (zi rfl (zi ?_ (zi (⟨_, _, rfl, rfl, fun i hi => (atC_sig (by rfl)).symm⟩) (zi (fun q hq => atC_refs fun hv => ⟨q, hq, hv, rfl⟩) (zi ⟨_, _, rfl, fun z h => ⟨h, _, _, rfl, rfl, fun i h => rfl⟩⟩ (zi (fun z hz c hc => zi (atS_in hz hc) zt) (zi ⟨_, _, rfl, fun z h => ⟨h, _, _, rfl, rfl, fun i h => rfl⟩⟩ (zi (fun z h => zt) zt))))))))))
   all_goals repeat' (first|exact rfl|exact zt|apply zi)
  rcases r2 with _ | ⟨b, a, q⟩
  ·repeat (first|apply zq|apply zb|apply zk)
   apply zr
   repeat' (first|exact zt|refine zi ?_ ?_|refine CallX.lend (m_values f m o hok hO hk hr2) [(1001, 30), (1002, 14), (1003, 860), (1004, 861)] rfl (zi rfl (zi (atR_sig rfl) (zi rfl (zi rfl zt)))) rfl ?_|fail)
   intro _
   refine AWp.ret ⟨Or.inl rfl, rfl, ?_⟩
   intro _
   rfl
  ·repeat (first|apply zq|apply zb|apply zk)
   apply zr
   repeat' (first|exact zt|refine zi ?_ ?_|refine CallX.lend (m_values f m o hok hO hk hr2) [(1001, 30), (1002, 14), (1003, 860), (1004, 861)] rfl (zi rfl (zi (atR_sig rfl) (zi rfl (zi rfl zt)))) rfl ?_|fail)
   intro _
   refine AWp.ret ⟨Or.inl rfl, rfl, ?_⟩
   intro _
   rfl
 ·have hc0 : limA f o b a q ≠ 0 := hr1.2.1
  refine ACallIs.enter B _ _ Try.func24 rfl rfl Try.ntmps24 Try.results24 rfl fun hreal => ?_
  clear hreal
  repeat (first|apply zq|apply zb|apply zk)
  apply zr;intro _
  refine AWp.freezeObj 3 rfl rfl ?_
  refine AWp.freezeObj 4 rfl rfl ?_
  refine AWp.freezeObj 5 rfl rfl ?_
  repeat (first|apply zq|apply zb|apply zk)
  apply zr
  refine CallX.pure hc rfl rfl rfl ?_
  intro _
  repeat (first|apply zq|apply zb|apply zk)
  apply zr;intro _
  repeat (first|apply zq|apply zb|apply zk)
  refine AWp.cond (zi (fun h1 => ?_) (fun h1 => ?_))
  ·cases h1
  repeat (first|apply zq|apply zb|apply zk)
  apply zr
  repeat' (first|exact zt|refine zi ?_ ?_|refine CallX.pure hl rfl rfl rfl ?_|fail)
  intro _
  refine AWp.freezeObj 9 rfl rfl ?_
  repeat (first|apply zq|apply zb|apply zk)
  apply zr;intro _
  repeat (first|apply zq|apply zb|apply zk)
  refine AWp.cond (zi (fun h2 => ?_) (fun h2 => ?_))
  ·repeat (first|apply zq|apply zb|apply zk)
   apply zr;intro _
   refine AWp.ret ⟨Or.inl rfl, rfl, ?_⟩
   intro _
   rfl
  ·exact absurd (by simpa using h2) hc0
theorem c_JudgeNo (f : Fun) (m : Mch) (o : Oup) (hf : Fun.ok f) (hok : Oup.ok o) (h0 : outF f m o ≠ 0) :
  ACallIs B.P 24 [f.av, m.av, o.av] (.tup [fltV 0 0 0 0, .i64 (outF f m o)]) := by
 have hc := c_MachCheck f m o hf hok
 refine ACallIs.enter B _ _ Try.func24 rfl rfl Try.ntmps24 Try.results24 rfl fun hreal => ?_
 clear hreal
 repeat (first|apply zq|apply zb|apply zk)
 apply zr;intro _
 refine AWp.freezeObj 3 rfl rfl ?_
 refine AWp.freezeObj 4 rfl rfl ?_
 refine AWp.freezeObj 5 rfl rfl ?_
 repeat (first|apply zq|apply zb|apply zk)
 apply zr
 refine CallX.pure hc rfl rfl rfl ?_
 intro _
 repeat (first|apply zq|apply zb|apply zk)
 apply zr;intro _
 repeat (first|apply zq|apply zb|apply zk)
 refine AWp.cond (zi (fun h1 => ?_) (fun h1 => ?_))
 ·repeat (first|apply zq|apply zb|apply zk)
  apply zr;intro _
  refine AWp.ret ⟨Or.inl rfl, rfl, ?_⟩
  intro _
  rfl
 ·exact absurd (by simpa using h1) h0
set_option maxHeartbeats 8000000 in
theorem c_Judged (f : Fun) (m : Mch) (o : Oup) (hf : Fun.ok f) (hok : Oup.ok o) {fr : Nat} (hO : OutOk f m o fr) (h0 : outF f m o = 0) {r1 r2 : Option (Nat × Nat × Nat)} (hr1 : Fst3 f.Blocks.length (nIn f) (nOp f) (LimP f o) r1) (hr2 : Fst3 f.Blocks.length (nIn f) (nOp f) (ValP f o (22 + fr)) r2) :
  ACallIs B.P 25 [f.av, m.av, o.av] (.tup [judR f o r1 r2, .i64 0]) := by
 have hc := c_KnownOf f m o hf hok hO h0
 have hC := chkd_of hO.chk0
 have hz5 := hC.e.siz
 have hbm : f.Blocks.length ≤ maxLen := by have := hz5.blocks; unfold maxLen; omega
 have him : ∀ b, b < f.Blocks.length → nIn f b ≤ maxLen := fun b hb => by have := hz5.instrs b hb; show (f.Blocks.getD b default).Instrs.length ≤ _; unfold maxLen; omega
 have hom : ∀ b a, b < f.Blocks.length → a < nIn f b → nOp f b a ≤ maxLen := fun b a hb ha => by have := hz5.ops b a hb ha; show ((f.Blocks.getD b default).Instrs.getD a default).Operands.length ≤ _; unfold maxLen; omega
 have hpu : (AV.tup [judR f o r1 r2, .i64 0]).pureB = true := by
  show ((judR f o r1 r2).pureB && _) = true
  rw [judR_pure]; rfl
 refine ACallIs.enter B _ _ Try.func25 rfl rfl Try.ntmps25 Try.results25 rfl fun hreal => ?_
 clear hreal
 repeat (first|apply zq|apply zb|apply zk)
 apply zr;intro _
 refine AWp.freezeObj 3 rfl rfl ?_
 refine AWp.freezeObj 4 rfl rfl ?_
 refine AWp.freezeObj 5 rfl rfl ?_
 repeat (first|apply zq|apply zb|apply zk)
 apply zr
 refine CallX.pure hc rfl rfl rfl ?_
 intro _
 repeat (first|apply zq|apply zb|apply zk)
 apply zr;intro _
 repeat (first|apply zq|apply zb|apply zk)
 refine AWp.cond (zi (fun h9 => ?_) (fun h9 => ?_))
 ·cases h9
 repeat (first|apply zq|apply zb|apply zk)
 apply zr;intro _
 repeat (first|apply zq|apply zb|apply zk)
 refine AWp.loop (fun b : Nat => ⟨[(3, .ptr f.cells), (5, .ptr o.cells), (6, .obj 6 0), (8, knV f o (22 + fr)), (10, .i64 b)], [(6, .cells [.i64 0, .i64 0, .i64 0, .i64 0])]⟩) (fun b => b ≤ f.Blocks.length ∧ OkJ f (LimP f o) b) (fun b => f.Blocks.length - b) 0 ⟨Nat.zero_le _, fun b' h => absurd h (Nat.not_lt_zero _)⟩ ?_ ?_
 ·refine zi ?_ (zi rfl (zi ?_ zt))
  all_goals repeat' (first|exact rfl|exact zt|apply zi)
 rintro b ⟨hb0, hB⟩
 repeat (first|apply zq|apply zb|apply zk)
 apply zr;intro _
 repeat (first|apply zq|apply zb|apply zk)
 refine AWp.cond (zi (fun h1 => ?_) (fun h1 => ?_))
 ·have hb : b < f.Blocks.length := Int.ofNat_lt.1 (of_decide_eq_true h1)
  have hb2 : b < o.Places.length := by rw [hO.pl]; exact hb
  repeat (first|apply zq|apply zb|apply zk)
  apply zr;intro _
  repeat (first|apply zq|apply zb|apply zk)
  refine AWp.loop (fun a : Nat => ⟨[(3, .ptr f.cells), (5, .ptr o.cells), (6, .obj 6 0), (8, knV f o (22 + fr)), (10, .i64 b), (11, .i64 a)], [(6, .cells [.i64 0, .i64 0, .i64 0, .i64 0])]⟩) (fun a => a ≤ nIn f b ∧ OkI f (LimP f o) b a) (fun a => nIn f b - a) 0 ⟨Nat.zero_le _, fun a' h => absurd h (Nat.not_lt_zero _)⟩ ?_ ?_
  ·refine zi ?_ (zi rfl (zi ?_ zt))
   all_goals repeat' (first|exact rfl|exact zt|apply zi)
  rintro a ⟨ha0, hA⟩
  repeat (first|apply zq|apply zb|apply zk)
  apply zr
  repeat' (first|exact zt|refine zi ?_ ?_|fail)
  all_goals first|exact fun _ => nn (hb)|skip
  intro _
  repeat (first|apply zq|apply zb|apply zk)
  refine AWp.cond (zi (fun h2 => ?_) (fun h2 => ?_))
  ·have ha : a < nIn f b := Int.ofNat_lt.1 (of_decide_eq_true h2)
   have ha2 : a < (o.Places.getD b default).length := by rw [hO.row b hb]; exact ha
   have hx := opsAll_at hO.chk0 hb ha
   have hpl := hO.ops b a hb ha
   repeat (first|apply zq|apply zb|apply zk)
   apply zr
   repeat' (first|exact zt|refine zi ?_ ?_|fail)
   all_goals first|exact fun _ => nn (hb)|exact fun _ => nn (ha)|skip
   intro _
   refine AWp.freezeObj 12 rfl rfl ?_
   repeat (first|apply zq|apply zb|apply zk)
   apply zr;intro _
   repeat (first|apply zq|apply zb|apply zk)
   refine AWp.loop (fun k : Nat => ⟨[(3, .ptr f.cells), (5, .ptr o.cells), (6, .obj 6 0), (8, knV f o (22 + fr)), (10, .i64 b), (11, .i64 a), (12, .ptr (insAt f b a).cells), (13, .i64 k)], [(6, .cells [.i64 0, .i64 0, .i64 0, .i64 0])]⟩) (fun k => k ≤ nOp f b a ∧ OkK (LimP f o) b a k) (fun k => nOp f b a - k) 0 ⟨Nat.zero_le _, fun k' h => absurd h (Nat.not_lt_zero _)⟩ ?_ ?_
   ·refine zi ?_ (zi rfl (zi ?_ zt))
    all_goals repeat' (first|exact rfl|exact zt|apply zi)
   rintro k ⟨hk0, hK⟩
   repeat (first|apply zq|apply zb|apply zk)
   apply zr;intro _
   repeat (first|apply zq|apply zb|apply zk)
   refine AWp.cond (zi (fun h3 => ?_) (fun h3 => ?_))
   ·have hk : k < nOp f b a := Int.ofNat_lt.1 (of_decide_eq_true h3)
    have hc1 := c_limitFault f (insAt f b a) hx (plAt o b a) hpl k hk
    repeat (first|apply zq|apply zb|apply zk)
    refine AWp.quietP (.q 0 (.q 1 (.q 2 (.q 3 (.q 4 (.q 5 (.q 6 (.q 7 (.q 8 (.q 9 (.q 10 (.c 11 true (.q 12 .fin) .no)))))))))))) [0, 1, 2, 3, 4, 5, 6, 7, 8, 9, 10, 12] [] mixed (by kernel_rfl) ?_
    repeat' (first|exact zt|refine zi ?_ ?_|refine CallX.pure hc1 rfl rfl rfl ?_|refine CallK.intro (fun _ => hc1) ?_|fail)
    all_goals first|exact fun _ => nn (hb2)|exact fun _ => nn (ha2)|skip
    intro _
    repeat (first|apply zq|apply zb|apply zk)
    apply zr;intro _
    repeat (first|apply zq|apply zb|apply zk)
    refine AWp.cond (zi (fun h4 => ?_) (fun h4 => ?_))
    ·have h4 : limA f o b a k ≠ 0 := by
      have h4 : (limA f o b a k != 0) = true := h4
      simpa using h4
     have h6 : r1 = some (b, a, k) := hr1.hit hb ha hk h4 ⟨hB, hA, hK⟩
     subst h6
     repeat (first|apply zq|apply zb|apply zk)
     apply zr;intro _
     refine AWp.ret ⟨Or.inl rfl, hpu, ?_⟩
     intro _
     rfl
    have h4 : ¬ LimP f o b a k := fun hn => by
     have h4 : (limA f o b a k != 0) = false := h4
     exact hn (by simpa using h4)
    repeat (first|apply zq|apply zb|apply zk)
    apply zr;intro _
    refine round_end (k + 1) ⟨hk, OkK.succ hK h4⟩ ?_ (by omega)
    refine zi ?_ (zi rfl (zi ?_ zt))
    all_goals repeat' (first|exact rfl|exact zt|exact congrArg (fun z => some (AV.i64 z)) (wrap_succ hk (hom b a hb ha))|refine zi ?_ ?_)
   ·have hk3 : ¬ (k : Int) < nOp f b a := of_decide_eq_false h3
    obtain rfl : k = nOp f b a := by omega
    apply ze
    repeat (first|apply zq|apply zb|apply zk)
    apply zr;intro _
    refine round_end (a + 1) ⟨ha, OkI.succ hA hK⟩ ?_ (by omega)
    refine zi ?_ (zi rfl (zi ?_ zt))
    all_goals repeat' (first|exact rfl|exact zt|exact congrArg (fun z => some (AV.i64 z)) (wrap_succ ha (him b hb))|refine zi ?_ ?_)
  ·have ha3 : ¬ (a : Int) < nIn f b := of_decide_eq_false h2
   obtain rfl : a = nIn f b := by omega
   apply ze
   repeat (first|apply zq|apply zb|apply zk)
   apply zr;intro _
   refine round_end (b + 1) ⟨hb, OkJ.succ hB hA⟩ ?_ (by omega)
   refine zi ?_ (zi rfl (zi ?_ zt))
   all_goals repeat' (first|exact rfl|exact zt|exact congrArg (fun z => some (AV.i64 z)) (wrap_succ hb hbm)|refine zi ?_ ?_)
 have hb3 : ¬ (b : Int) < f.Blocks.length := of_decide_eq_false h1
 obtain rfl : b = f.Blocks.length := by omega
 obtain rfl := hr1.all hB
 clear h1 hb3 hb0 hB
 apply ze
 repeat (first|apply zq|apply zb|apply zk)
 apply zr;intro _
 repeat (first|apply zq|apply zb|apply zk)
 refine AWp.loop (fun b : Nat => ⟨[(6, .obj 6 0), (8, knV f o (22 + fr)), (15, .i64 b)], [(6, .cells [.i64 0, .i64 0, .i64 0, .i64 0])]⟩) (fun b => b ≤ f.Blocks.length ∧ OkJ f (ValP f o (22 + fr)) b) (fun b => f.Blocks.length - b) 0 ⟨Nat.zero_le _, fun b' h => absurd h (Nat.not_lt_zero _)⟩ ?_ ?_
 ·refine zi ?_ (zi rfl (zi ?_ zt))
  all_goals repeat' (first|exact rfl|exact zt|apply zi)
 rintro b ⟨hb0, hB⟩
 repeat (first|apply zq|apply zb|apply zk)
 apply zr;intro _
 repeat (first|apply zq|apply zb|apply zk)
 refine AWp.cond (zi (fun h1 => ?_) (fun h1 => ?_))
 ·have hb : b < f.Blocks.length := Int.ofNat_lt.1 (of_decide_eq_true h1)
  repeat (first|apply zq|apply zb|apply zk)
  apply zr;intro _
  repeat (first|apply zq|apply zb|apply zk)
  refine AWp.loop (fun a : Nat => ⟨[(6, .obj 6 0), (8, knV f o (22 + fr)), (15, .i64 b), (16, .i64 a)], [(6, .cells [.i64 0, .i64 0, .i64 0, .i64 0])]⟩) (fun a => a ≤ nIn f b ∧ OkI f (ValP f o (22 + fr)) b a) (fun a => nIn f b - a) 0 ⟨Nat.zero_le _, fun a' h => absurd h (Nat.not_lt_zero _)⟩ ?_ ?_
  ·refine zi ?_ (zi rfl (zi ?_ zt))
   all_goals repeat' (first|exact rfl|exact zt|apply zi)
  rintro a ⟨ha0, hA⟩
  repeat (first|apply zq|apply zb|apply zk)
  apply zr
  repeat' (first|exact zt|refine zi ?_ ?_|fail)
  all_goals first|exact fun _ => nn (hb)|skip
  intro _
  repeat (first|apply zq|apply zb|apply zk)
  refine AWp.cond (zi (fun h2 => ?_) (fun h2 => ?_))
  ·have ha : a < nIn f b := Int.ofNat_lt.1 (of_decide_eq_true h2)
   repeat (first|apply zq|apply zb|apply zk)
   apply zr;intro _
   repeat (first|apply zq|apply zb|apply zk)
   refine AWp.loop (fun k : Nat => ⟨[(6, .obj 6 0), (8, knV f o (22 + fr)), (15, .i64 b), (16, .i64 a), (17, .i64 k)], [(6, .cells [.i64 0, .i64 0, .i64 0, .i64 0])]⟩) (fun k => k ≤ nOp f b a ∧ OkK (ValP f o (22 + fr)) b a k) (fun k => nOp f b a - k) 0 ⟨Nat.zero_le _, fun k' h => absurd h (Nat.not_lt_zero _)⟩ ?_ ?_
   ·refine zi ?_ (zi rfl (zi ?_ zt))
    all_goals repeat' (first|exact rfl|exact zt|apply zi)
   rintro k ⟨hk0, hK⟩
   repeat (first|apply zq|apply zb|apply zk)
   apply zr
   repeat' (first|exact zt|refine zi ?_ ?_|fail)
   all_goals first|exact fun _ => nn (hb)|exact fun _ => nn (ha)|skip
   intro _
   repeat (first|apply zq|apply zb|apply zk)
   refine AWp.cond (zi (fun h3 => ?_) (fun h3 => ?_))
   ·have hk : k < nOp f b a := Int.ofNat_lt.1 (of_decide_eq_true h3)
    repeat (first|apply zq|apply zb|apply zk)
    apply zr
    repeat' (first|exact zt|refine zi ?_ ?_|fail)
    all_goals first|exact fun _ => nn (hb)|exact fun _ => nn (ha)|exact fun _ => nn (hk)|skip
    intro _
    repeat (first|apply zq|apply zb|apply zk)
    refine AWp.cond (zi (fun h4 => ?_) (fun h4 => ?_))
    ·have h4 : knB f o (22 + fr) b a k = false := by
      have h4 : (!knB f o (22 + fr) b a k) = true := h4
      simpa using h4
     have h6 : r2 = some (b, a, k) := hr2.hit hb ha hk h4 ⟨hB, hA, hK⟩
     subst h6
     repeat (first|apply zq|apply zb|apply zk)
     apply zr;intro _
     refine AWp.ret ⟨Or.inl rfl, hpu, ?_⟩
     intro _
     rfl
    have h4 : ¬ ValP f o (22 + fr) b a k := fun hn => by
     have h4 : (!knB f o (22 + fr) b a k) = false := h4
     rw [show knB f o (22 + fr) b a k = false from hn] at h4
     cases h4
    repeat (first|apply zq|apply zb|apply zk)
    apply zr;intro _
    refine round_end (k + 1) ⟨hk, OkK.succ hK h4⟩ ?_ (by omega)
    refine zi ?_ (zi rfl (zi ?_ zt))
    all_goals repeat' (first|exact rfl|exact zt|exact congrArg (fun z => some (AV.i64 z)) (wrap_succ hk (hom b a hb ha))|refine zi ?_ ?_)
   ·have hk3 : ¬ (k : Int) < nOp f b a := of_decide_eq_false h3
    obtain rfl : k = nOp f b a := by omega
    apply ze
    repeat (first|apply zq|apply zb|apply zk)
    apply zr;intro _
    refine round_end (a + 1) ⟨ha, OkI.succ hA hK⟩ ?_ (by omega)
    refine zi ?_ (zi rfl (zi ?_ zt))
    all_goals repeat' (first|exact rfl|exact zt|exact congrArg (fun z => some (AV.i64 z)) (wrap_succ ha (him b hb))|refine zi ?_ ?_)
  ·have ha3 : ¬ (a : Int) < nIn f b := of_decide_eq_false h2
   obtain rfl : a = nIn f b := by omega
   apply ze
   repeat (first|apply zq|apply zb|apply zk)
   apply zr;intro _
   refine round_end (b + 1) ⟨hb, OkJ.succ hB hA⟩ ?_ (by omega)
   refine zi ?_ (zi rfl (zi ?_ zt))
   all_goals repeat' (first|exact rfl|exact zt|exact congrArg (fun z => some (AV.i64 z)) (wrap_succ hb hbm)|refine zi ?_ ?_)
 ·have hb3 : ¬ (b : Int) < f.Blocks.length := of_decide_eq_false h1
  obtain rfl : b = f.Blocks.length := by omega
  obtain rfl := hr2.all hB
  apply ze
  repeat (first|apply zq|apply zb|apply zk)
  apply zr;intro _
  refine AWp.ret ⟨Or.inl rfl, hpu, ?_⟩
  intro _
  rfl
theorem c_JudgedNo (f : Fun) (m : Mch) (o : Oup) (hf : Fun.ok f) (hok : Oup.ok o) (h0 : outF f m o ≠ 0) :
  ACallIs B.P 25 [f.av, m.av, o.av] (.tup [fltV 0 0 0 0, .i64 (outF f m o)]) := by
 have hc := c_KnownOfNo f m o hf hok h0
 refine ACallIs.enter B _ _ Try.func25 rfl rfl Try.ntmps25 Try.results25 rfl fun hreal => ?_
 clear hreal
 repeat (first|apply zq|apply zb|apply zk)
 apply zr;intro _
 refine AWp.freezeObj 3 rfl rfl ?_
 refine AWp.freezeObj 4 rfl rfl ?_
 refine AWp.freezeObj 5 rfl rfl ?_
 repeat (first|apply zq|apply zb|apply zk)
 apply zr
 refine CallX.pure hc rfl rfl rfl ?_
 intro _
 repeat (first|apply zq|apply zb|apply zk)
 apply zr;intro _
 repeat (first|apply zq|apply zb|apply zk)
 refine AWp.cond (zi (fun h1 => ?_) (fun h1 => ?_))
 ·repeat (first|apply zq|apply zb|apply zk)
  apply zr;intro _
  refine AWp.ret ⟨Or.inl rfl, rfl, ?_⟩
  intro _
  rfl
 ·exact absurd (by simpa using h1) h0
end Go.Proofs.Ytjjgjflbhpoloaa
