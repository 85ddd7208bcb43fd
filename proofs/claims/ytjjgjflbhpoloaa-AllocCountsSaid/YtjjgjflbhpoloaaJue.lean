/- judge.Known: the contracts of the walk over blocks. Condition: an output that may be. -/
import Derived.Test.YtjjgjflbhpoloaaJud
import Derived.Test.YtjjgjflbhpoloaaDom
set_option linter.unusedVariables false
set_option linter.unusedSimpArgs false
namespace Go.Proofs.Ytjjgjflbhpoloaa
open Go Go.Abs Go.RowKit Go.Abs.Gra
@[reducible] def jgC (f : Fun) (m : Mch) (o : Oup) (A n : Nat) : HO := .cells (f.cells ++ m.cells ++ o.cells ++ [.sl ⟨A, []⟩ n])
def atC (W : Nat) (vis : Nat → Bool) (N b : Nat) : List AV := if vis b = true then [.sl ⟨W, [b]⟩ N] else [nilV]
@[reducible] def atR (W n : Nat) (vis : Nat → Bool) (N : Nat) : HO := .rows 118 1 n (atC W vis N)
section
variable {W N b : Nat} {vis : Nat → Bool}
theorem atC_yes (h : vis b = true) : atC W vis N b = [.sl ⟨W, [b]⟩ N] := if_pos h
theorem atC_no (h : ¬ vis b = true) : atC W vis N b = [nilV] := if_neg h
theorem atC_len : (atC W vis N b).length = 1 := by unfold atC; split <;> rfl
theorem atC_keep {p : Nm → Bool} (h : ∀ b, p ⟨W, [b]⟩ = true) : (atC W vis N b).map (AV.keep p) = atC W vis N b := by
 by_cases e : vis b = true
 ·rw [atC_yes e]; show [AV.keep p (.sl ⟨W, [b]⟩ N)] = _; unfold AV.keep; rw [show AV.refsB p (.sl ⟨W, [b]⟩ N) = true from h b]; rfl
 ·rw [atC_no e]; rfl
theorem atC_refs {p : Nm → Prop} (h : vis b = true → p ⟨W, [b]⟩) : AV.refsPL p (atC W vis N b) := by
 by_cases e : vis b = true
 ·rw [atC_yes e]; exact zi (h e) zt
 ·rw [atC_no e]; exact zi zt zt
theorem atC_sig {σ : List (Nat × Nat)} {W' : Nat} (h : sg σ W = W') : AV.sigL σ (atC W vis N b) = atC W' vis N b := by
 by_cases e : vis b = true
 ·rw [atC_yes e, atC_yes e]; subst h; rfl
 ·rw [atC_no e, atC_no e]; rfl
theorem atR_sig {σ : List (Nat × Nat)} {W' n : Nat} (h : sg σ W = W') : some (atR W' n vis N) = some ((atR W n vis N).sig σ) :=
 congrArg (fun g => some (HO.rows 118 1 n g)) (funext fun i => (atC_sig h).symm)
end
@[reducible] def jgH (f : Fun) (m : Mch) (o : Oup) (n : Nat) (vis : Nat → Bool) (N k : Nat) (P : Nat → Knw) : List (Nat × HO) := [(1001, jgC f m o 1002 n), (1002, atR 1003 n vis N), (1003, atS 1004 n vis N k), (1004, atW n vis N k P)]
set_option maxHeartbeats 8000000 in
theorem m_through (f : Fun) (hC : Chkd f) (m : Mch) (o : Oup) (hok : Oup.ok o) {fr n N k : Nat} (hfr : fr ≤ 1000) (hn : n = f.Blocks.length) (hN : N = 22 + fr) (hk : k = nW f.Values.length) (vis : Nat → Bool) (P : Nat → Knw) (hO : OutOk f m o fr) (b : Nat) (hb : b < f.Blocks.length) (hv : vis b = true) :
  ACallM B.P 90 ⟨[.obj 1001 0, .i64 b], jgH f m o n vis N k P, .sl 7 N, [(7, stR 8 N k), (8, stW N k (thK f o b (P b)))] ++ jgH f m o n vis N k P⟩ := by
 subst hN
 have hz := hC.e.siz
 have hkk : k ≤ 1000000 := by subst hk; have := hz.values; show (f.Values.length + 63) / 64 ≤ _; omega
 have hbn : b < n := by rw [hn]; exact hb
 have hil : (f.Blocks.getD b default).Instrs.length ≤ maxLen := by have := hz.instrs b hb; unfold maxLen; omega
 have hb2 : b < o.Places.length := by rw [hO.pl]; exact hb
 have hvE : atC 1003 vis (22 + fr) ((b : Nat) : Int).toNat = [.sl ⟨1003, [b]⟩ (22 + fr)] := atC_yes hv
 refine ACallM.enter B _ _ Try.func90 rfl rfl Try.ntmps90 Try.results90 rfl ?_ fun hreal => ?_
 ·refine zi (zi ?_ (zi (fun q hq => atC_refs fun hv => ⟨q, hq, hv, rfl⟩) (zi (fun z hz c hc => zi (atS_in hz hc) zt) (zi (fun z h => zt) zt)))) (zi ?_ (zi zt (zi zt (zi (fun z hz => hz) (zi (fun z hz => hz) zt)))))
  all_goals repeat' (first|exact rfl|exact zt|apply zi)
 clear hreal
 repeat (first|apply zq|apply zb|apply zk)
 apply zr;intro _
 repeat (first|apply zq|apply zb|apply zk)
 apply zr
 repeat' (first|exact zt|refine zi ?_ ?_|refine CallX.lend (m_copiedAt (N := 22 + fr) (by omega) hkk hbn hv P) [(1003, 1003), (1004, 1004), (7, 7), (8, 8)] rfl (zi rfl (zi rfl zt)) rfl ?_|rw [hvE]|fail)
 all_goals first|exact fun _ => nn (hbn)|exact fun _ => hbn|skip
 intro _
 repeat (first|apply zq|apply zb|apply zk)
 apply zr
 refine zi (fun _ => nn (hb)) ?_
 intro _
 repeat (first|apply zq|apply zb|apply zk)
 refine AWp.loop (fun a : Nat => ⟨[(0, .obj 1001 0), (1, .i64 b), (5, .sl 7 (22 + fr)), (24, .i64 (f.Blocks.getD b default).Instrs.length), (25, .i64 a)], [(7, stR 8 (22 + fr) k), (8, stW (22 + fr) k (thI f o b (P b) a)), (1001, jgC f m o 1002 n), (1002, atR 1003 n vis (22 + fr)), (1003, atS 1004 n vis (22 + fr) k), (1004, atW n vis (22 + fr) k P)]⟩) (fun a => a ≤ (f.Blocks.getD b default).Instrs.length) (fun a => (f.Blocks.getD b default).Instrs.length - a) 0 (Nat.zero_le _) ?_ ?_
 ·refine zi ?_ (zi ⟨_, _, rfl, rfl, fun i h => rfl⟩ (zi (fun i h => zi ⟨i, h, rfl⟩ zt) (zi ⟨_, _, rfl, fun z h => ⟨h, _, _, rfl, rfl, fun i h => rfl⟩⟩ (zi (fun z h => zt) (zi rfl (zi ?_ (zi (⟨_, _, rfl, rfl, fun i hi => (atC_keep fun _ => rfl).symm⟩) (zi (fun q hq => atC_refs fun hv => ⟨q, hq, hv, rfl⟩) (zi ⟨_, _, rfl, fun z h => ⟨h, _, _, rfl, rfl, fun i h => rfl⟩⟩ (zi (fun z hz c hc => zi (atS_in hz hc) zt) (zi ⟨_, _, rfl, fun z h => ⟨h, _, _, rfl, rfl, fun i h => rfl⟩⟩ (zi (fun z h => zt) zt))))))))))))
  all_goals repeat' (first|exact rfl|exact zt|apply zi)
 intro a ha'
 repeat (first|apply zq|apply zb|apply zk)
 apply zr;intro _
 repeat (first|apply zq|apply zb|apply zk)
 refine AWp.cond (zi (fun h1 => ?_) (fun h1 => ?_))
 ·have ha : a < (f.Blocks.getD b default).Instrs.length := Int.ofNat_lt.1 (of_decide_eq_true h1)
  have ha2 : a < (o.Places.getD b default).length := by rw [hO.row b hb]; exact ha
  repeat (first|apply zq|apply zb|apply zk)
  apply zr;intro _
  repeat (first|apply zq|apply zb|apply zk)
  apply zr
  repeat' (first|exact zt|refine zi ?_ ?_|refine CallX.shown (m_jmoves f m o hok hfr hkk (thI f o b (P b) a) b (a) hO.mv) [(1001, 7), (1002, 8)] [1001] rfl (zi rfl (zi rfl zt)) rfl rfl (zi (fun q hq => rfl) (zi (fun z hz q hq => rfl) zt)) ?_|fail)
  intro _
  refine AWp.weaken (s' := ⟨[(0, .obj 1001 0), (1, .i64 b), (5, .sl 7 (22 + fr)), (24, .i64 (f.Blocks.getD b default).Instrs.length), (25, .i64 a), (6, .i64 a)], [(7, stR 8 (22 + fr) k), (8, stW (22 + fr) k (edKA o b a (thI f o b (P b) a))), (1001, jgC f m o 1002 n), (1002, atR 1003 n vis (22 + fr)), (1003, atS 1004 n vis (22 + fr) k), (1004, atW n vis (22 + fr) k P)]⟩) ?_ ?_
  ·refine zi ?_ (zi ⟨_, _, rfl, rfl, fun i h => rfl⟩ (zi (fun i h => zi ⟨i, h, rfl⟩ zt) (zi ⟨_, _, rfl, fun z h => ⟨h, _, _, rfl, rfl, fun i h => rfl⟩⟩ (zi (fun z h => zt) (zi rfl (zi ?_ (zi (⟨_, _, rfl, rfl, fun i hi => (atC_keep fun _ => rfl).symm⟩) (zi (fun q hq => atC_refs fun hv => ⟨q, hq, hv, rfl⟩) (zi ⟨_, _, rfl, fun z h => ⟨h, _, _, rfl, rfl, fun i h => rfl⟩⟩ (zi (fun z hz c hc => zi (atS_in hz hc) zt) (zi ⟨_, _, rfl, fun z h => ⟨h, _, _, rfl, rfl, fun i h => rfl⟩⟩ (zi (fun z h => zt) zt))))))))))))
   all_goals repeat' (first|exact rfl|exact zt|apply zi)
  repeat (first|apply zq|apply zb|apply zk)
  apply zr
  repeat' (first|exact zt|refine zi ?_ ?_|refine CallX.shown (m_jinstr f hC m o hok hfr hk (edKA o b a (thI f o b (P b) a)) b (a) hb ha hb2 ha2 (hO.ops b (a) hb ha) (fun q hq => hO.at_ b (a) q hb ha hq) (kind_ok hO.chk0 hb ha) (fun q hq => hO.spo b (a) q hb ha hq)) [(1001, 7), (1002, 8)] [1001] rfl (zi rfl (zi rfl zt)) rfl rfl (zi (fun q hq => rfl) (zi (fun z hz q hq => rfl) zt)) ?_|fail)
  intro _
  repeat (first|apply zq|apply zb|apply zk)
  apply zr;intro _
  refine round_end (a + 1) ha ?_ (by omega)
  refine zi ?_ (zi ⟨_, _, rfl, rfl, fun i h => rfl⟩ (zi (fun i h => zi ⟨i, h, rfl⟩ zt) (zi ⟨_, _, rfl, fun z h => ⟨h, _, _, rfl, rfl, fun i h => rfl⟩⟩ (zi (fun z h => zt) (zi rfl (zi ?_ (zi (⟨_, _, rfl, rfl, fun i hi => (atC_keep fun _ => rfl).symm⟩) (zi (fun q hq => atC_refs fun hv => ⟨q, hq, hv, rfl⟩) (zi ⟨_, _, rfl, fun z h => ⟨h, _, _, rfl, rfl, fun i h => rfl⟩⟩ (zi (fun z hz c hc => zi (atS_in hz hc) zt) (zi ⟨_, _, rfl, fun z h => ⟨h, _, _, rfl, rfl, fun i h => rfl⟩⟩ (zi (fun z h => zt) zt))))))))))))
  all_goals repeat' (first|exact rfl|exact zt|exact congrArg (fun z => some (AV.i64 z)) (wrap_succ ha hil)|refine zi ?_ ?_)
 have ha3 : ¬ (a : Int) < (f.Blocks.getD b default).Instrs.length := of_decide_eq_false h1
 obtain rfl : a = (f.Blocks.getD b default).Instrs.length := by omega
 apply ze
 repeat (first|apply zq|apply zb|apply zk)
 apply zr
 repeat' (first|exact zt|refine zi ?_ ?_|refine CallX.shown (m_jmoves f m o hok hfr hkk (thI f o b (P b) (f.Blocks.getD b default).Instrs.length) b ((f.Blocks.getD b default).Instrs.length) hO.mv) [(1001, 7), (1002, 8)] [1001] rfl (zi rfl (zi rfl zt)) rfl rfl (zi (fun q hq => rfl) (zi (fun z hz q hq => rfl) zt)) ?_|fail)
 all_goals first|exact fun _ => nn (hb)|skip
 intro _
 repeat (first|apply zq|apply zb|apply zk)
 apply zr;intro _
 refine AWp.ret ⟨Or.inl rfl, ?_⟩
 intro _
 refine zi rfl (zi rfl (zi ⟨_, _, rfl, rfl, fun i h => rfl⟩ (zi (fun i h => zi ⟨i, h, rfl⟩ zt) (zi ⟨_, _, rfl, fun z h => ⟨h, _, _, rfl, rfl, fun i h => rfl⟩⟩ (zi (fun z h => zt) (zi rfl (zi ?_ (zi (⟨_, _, rfl, rfl, fun i hi => (atC_keep fun _ => rfl).symm⟩) (zi (fun q hq => atC_refs fun hv => ⟨q, hq, hv, rfl⟩) (zi ⟨_, _, rfl, fun z h => ⟨h, _, _, rfl, rfl, fun i h => rfl⟩⟩ (zi (fun z hz c hc => zi (atS_in hz hc) zt) (zi ⟨_, _, rfl, fun z h => ⟨h, _, _, rfl, rfl, fun i h => rfl⟩⟩ (zi (fun z h => zt) zt)))))))))))))
 all_goals repeat' (first|exact rfl|exact zt|apply zi)
def metρ (t : Nat) (nm : Nm) : Option Nm := bif Nat.beq nm.id 870 then (bif decide (nm.ix = [t]) then some ⟨1005, []⟩ else some ⟨1003, nm.ix⟩) else bif Nat.beq nm.id 871 then (bif decide (nm.ix.headD 0 = t) then some ⟨1006, [nm.ix.getD 1 0]⟩ else some ⟨1004, nm.ix⟩) else some nm
def visT (vis : Nat → Bool) (t : Nat) : Nat → Bool := fun b => vis b || decide (b = t)
def updP (P : Nat → Knw) (t : Nat) (K : Knw) : Nat → Knw := fun b => if b = t then K else P b
theorem updP_same {P : Nat → Knw} {t : Nat} {K : Knw} : updP P t K t = K := if_pos rfl
theorem updP_ne {P : Nat → Knw} {t b : Nat} {K : Knw} (h : b ≠ t) : updP P t K b = P b := if_neg h
theorem met_at {t : Nat} : metρ t ⟨870, [t]⟩ = some ⟨1005, []⟩ := by unfold metρ; simp [Nat.beq_refl]
theorem met_ne {t b : Nat} (h : b ≠ t) : metρ t ⟨870, [b]⟩ = some ⟨1003, [b]⟩ := by
 unfold metρ
 have : decide ([b] = [t]) = false := decide_eq_false fun h2 => h (by injection h2)
 simp only [Nat.beq_refl, this, cond_true, cond_false]
theorem met_at2 {t c : Nat} : metρ t ⟨871, [t, c]⟩ = some ⟨1006, [c]⟩ := by
 unfold metρ
 have : decide ([t, c].headD 0 = t) = true := decide_eq_true rfl
 show (bif Nat.beq 871 870 then _ else bif Nat.beq 871 871 then (bif decide ([t, c].headD 0 = t) then _ else _) else _) = _
 rw [this]; rfl
theorem met_ne2 {t b c : Nat} (h : b ≠ t) : metρ t ⟨871, [b, c]⟩ = some ⟨1004, [b, c]⟩ := by
 unfold metρ
 have : decide ([b, c].headD 0 = t) = false := decide_eq_false h
 show (bif Nat.beq 871 870 then _ else bif Nat.beq 871 871 then (bif decide ([b, c].headD 0 = t) then _ else _) else _) = _
 rw [this]; rfl
theorem vis_new {vis : Nat → Bool} {t b : Nat} (h : visT vis t b = true) (e : b ≠ t) : vis b = true := by
 unfold visT at h; rw [decide_eq_false e, Bool.or_false] at h; exact h
theorem met_row {vis : Nat → Bool} {t b N : Nat} : (if b = t then [AV.sl ⟨1005, []⟩ N] else atC 1003 vis N b) = AV.rnL (metρ t) (atC 870 (visT vis t) N b) := by
 by_cases e : b = t
 ·subst e
  rw [if_pos rfl, atC_yes (by unfold visT; rw [decide_eq_true rfl, Bool.or_true])]
  simp only [AV.rnL, AV.rn, met_at]
 ·rw [if_neg e]
  by_cases g : vis b = true
  ·rw [atC_yes g, atC_yes (by unfold visT; rw [g]; rfl)]
   simp only [AV.rnL, AV.rn, met_ne e]
  ·rw [atC_no g, atC_no (fun h => g (vis_new h e))]; rfl
@[reducible] def newH (f : Fun) (m : Mch) (o : Oup) (n : Nat) (vis : Nat → Bool) (N k : Nat) (P : Nat → Knw) : List (Nat × HO) := [(1001, jgC f m o 1002 n), (1002, atR 870 n vis N), (870, atS 871 n vis N k), (871, atW n vis N k P)]
theorem met_inj {f : Fun} {m : Mch} {o : Oup} {n t N k : Nat} {vis : Nat → Bool} {P : Nat → Knw} : ∀ a b c : Nm, domP (newH f m o n vis N k P) a → domP (newH f m o n vis N k P) b → metρ t a = some c → metρ t b = some c → a = b := by
 have cl : ∀ a : Nm, domP (newH f m o n vis N k P) a → (a = ⟨1001, []⟩ ∧ metρ t a = some ⟨1001, []⟩) ∨ (a = ⟨1002, []⟩ ∧ metρ t a = some ⟨1002, []⟩) ∨ (∃ b, a = ⟨870, [b]⟩) ∨ ∃ b c, a = ⟨871, [b, c]⟩ := by
  intro a ha
  obtain ⟨id, ix⟩ := a
  unfold domP at ha
  simp only [look_cons] at ha
  by_cases e1 : id = 1001
  ·subst e1
   have h : ix = [] := ha
   subst h; exact .inl ⟨rfl, rfl⟩
  ·rw [if_neg e1] at ha
   by_cases e2 : id = 1002
   ·subst e2
    have h : ix = [] := ha
    subst h; exact .inr (.inl ⟨rfl, rfl⟩)
   ·rw [if_neg e2] at ha
    by_cases e3 : id = 870
    ·subst e3
     obtain ⟨b, _, _, hb⟩ : stD n vis ix := ha
     subst hb; exact .inr (.inr (.inl ⟨b, rfl⟩))
    ·rw [if_neg e3] at ha
     by_cases e4 : id = 871
     ·subst e4
      obtain ⟨b, c, _, _, _, hb⟩ : wdD n vis N ix := ha
      subst hb; exact .inr (.inr (.inr ⟨b, c, rfl⟩))
     ·rw [if_neg e4] at ha; exact ha.elim
 intro a b c ha hb h1 h2
 rcases cl a ha with ⟨e1, q1⟩ | ⟨e1, q1⟩ | ⟨b1, rfl⟩ | ⟨b1, c1, rfl⟩ <;> rcases cl b hb with ⟨e2, q2⟩ | ⟨e2, q2⟩ | ⟨b2, rfl⟩ | ⟨b2, c2, rfl⟩
 all_goals (try (by_cases g1 : b1 = t)) <;> (try (by_cases g2 : b2 = t))
 all_goals (try subst g1) <;> (try subst g2) <;> (try rw [q1] at h1) <;> (try rw [q2] at h2) <;> (try rw [met_at] at h1) <;> (try rw [met_ne g1] at h1) <;> (try rw [met_at2] at h1) <;> (try rw [met_ne2 g1] at h1) <;> (try rw [met_at] at h2) <;> (try rw [met_ne g2] at h2) <;> (try rw [met_at2] at h2) <;> (try rw [met_ne2 g2] at h2)
 all_goals (try subst e1) <;> (try subst e2)
 all_goals (have h3 := h1.trans h2.symm; simp only [Option.some.injEq, Nm.mk.injEq, List.cons.injEq, and_true, true_and, Nat.reduceEqDiff, false_and, and_false, reduceCtorEq] at h3 ⊢)
 all_goals first|rfl|exact h3|exact h3.elim|(simp_all)
set_option maxHeartbeats 8000000 in
theorem m_meetNew (f : Fun) (m : Mch) (o : Oup) {n N k : Nat} (vis : Nat → Bool) (P : Nat → Knw) (L : Knw) (t : Nat) (ht : t < n) (hv : ¬ vis t = true) :
  ACallM B.P 91 ⟨[.obj 1001 0, .i64 t, .sl 1005 N], jgH f m o n vis N k P ++ [(1005, stR 1006 N k), (1006, stW N k L)], .bool true, newH f m o n (visT vis t) N k (updP P t L)⟩ := by
 have hvE : atC 1003 vis N ((t : Nat) : Int).toNat = [nilV] := atC_no hv
 refine ACallM.enter B _ _ Try.func91 rfl rfl Try.ntmps91 Try.results91 rfl ?_ fun hreal => ?_
 ·refine zi (zi ?_ (zi (fun q hq => atC_refs fun hv => ⟨q, hq, hv, rfl⟩) (zi (fun z hz c hc => zi (atS_in hz hc) zt) (zi (fun z h => zt) (zi (fun i h => zi ⟨i, h, rfl⟩ zt) (zi (fun ix h => zt) zt)))))) (zi ?_ ?_)
  ·repeat' (first|exact rfl|exact zt|apply zi)
  ·repeat' (first|exact rfl|exact zt|apply zi)
  ·exact zi zt (zi zt (zi zt (zi zt (zi zt (zi zt zt)))))
 clear hreal
 repeat (first|apply zq|apply zb|apply zk)
 apply zr;intro _
 repeat (first|apply zq|apply zb|apply zk)
 apply zr
 repeat' (first|exact zt|refine zi ?_ ?_|rw [hvE]|fail)
 all_goals first|exact fun _ => nn (ht)|exact fun _ => ht|skip
 intro _
 repeat (first|apply zq|apply zb|apply zk)
 refine AWp.cond (zi (fun h1 => ?_) (fun h1 => ?_))
 ·repeat (first|apply zq|apply zb|apply zk)
  apply zr
  repeat' (first|exact zt|refine zi ?_ ?_|fail)
  all_goals first|exact fun _ => nn (ht)|exact fun _ => ht|exact ht|skip
  intro _
  repeat (first|apply zq|apply zb|apply zk)
  apply zr;intro _
  refine AWp.weaken (s' := ⟨[(6, .bool true)], [(1001, jgC f m o 1002 n), (1002, .rows 118 1 n (fun b => if b = t then [AV.sl ⟨1005, []⟩ N] else atC 1003 vis N b)), (1003, atS 1004 n vis N k), (1004, atW n vis N k P), (1005, stR 1006 N k), (1006, stW N k L)]⟩) ?_ ?_
  ·refine zi ?_ (zi rfl (zi ?_ (zi (⟨_, _, rfl, rfl, ?_⟩) (zi (?_) (zi ⟨_, _, rfl, fun z h => ⟨h, _, _, rfl, rfl, fun i h => rfl⟩⟩ (zi (fun z hz c hc => zi (atS_in hz hc) zt) (zi ⟨_, _, rfl, fun z h => ⟨h, _, _, rfl, rfl, fun i h => rfl⟩⟩ (zi (fun z h => zt) (zi ⟨_, _, rfl, rfl, fun i h => rfl⟩ (zi (fun i h => zi ⟨i, h, rfl⟩ zt) (zi ⟨_, _, rfl, fun z h => ⟨h, _, _, rfl, rfl, fun i h => rfl⟩⟩ (zi (fun z h => zt) zt))))))))))))
   ·repeat' (first|exact rfl|exact zt|apply zi)
   ·repeat' (first|exact rfl|exact zt|apply zi)
   ·intro b hb
    by_cases e : b = t
    ·subst e
     exact (if_pos rfl).trans ((one_put atC_len).trans (if_pos rfl).symm)
    ·exact (if_neg e).trans (if_neg e).symm
   ·intro b hb
    by_cases e : b = t
    ·subst e; show AV.refsPL _ (if b = b then _ else _); rw [if_pos rfl]; exact zi rfl zt
    ·show AV.refsPL _ (if b = t then _ else _); rw [if_neg e]; exact atC_refs fun hv => ⟨b, hb, hv, rfl⟩
  refine AWp.via (metρ t) ⟨[(6, .bool true)], newH f m o n (visT vis t) N k (updP P t L)⟩ ?_ ?_
  ·refine ⟨?_, ?_, met_inj, ?_⟩
   ·repeat' (first|exact rfl|exact zt|apply zi)
   ·refine zi (zi ?_ ?_) (zi (zi ⟨_, ⟨_, rfl, rfl, zt⟩, Or.inl ⟨_, rfl, fun b hb => met_row⟩⟩ (fun b hb => atC_refs fun hv => ⟨b, hb, hv, rfl⟩)) (zi (fun z hz => zi ?_ (fun c hc => zi (atS_in hz hc) zt)) (zi (fun z hz => zi ?_ zt) zt)))
    ·exact ⟨_, ⟨_, rfl, rfl, zt⟩, rfl⟩
    ·repeat' (first|exact rfl|exact zt|apply zi)
    ·obtain ⟨b, h1, h2, rfl⟩ := hz
     unfold viaO
     by_cases e : b = t
     ·subst e
      rw [met_at]
      refine ⟨_, ⟨_, rfl, rfl, zt⟩, Or.inl ⟨_, rfl, fun c hc => ?_⟩⟩
      show [AV.sl ⟨1006, [c]⟩ k] = AV.rnL (metρ b) [.sl ⟨871, [b, c]⟩ k]
      simp only [AV.rnL, AV.rn, met_at2]
     ·rw [met_ne e]
      refine ⟨_, ⟨_, rfl, rfl, ⟨b, h1, vis_new h2 e, rfl⟩⟩, Or.inl ⟨_, rfl, fun c hc => ?_⟩⟩
      show [AV.sl ⟨1004, [b, c]⟩ k] = AV.rnL (metρ t) [.sl ⟨871, [b, c]⟩ k]
      simp only [AV.rnL, AV.rn, met_ne2 e]
    ·obtain ⟨b, c, h1, h2, h3, rfl⟩ := hz
     unfold viaO
     by_cases e : b = t
     ·subst e
      rw [met_at2]
      refine ⟨_, ⟨_, rfl, rfl, ⟨c, h3, rfl⟩⟩, Or.inl ⟨_, rfl, fun j hj => ?_⟩⟩
      show bitC (L c) j = bitC (updP P b L b c) j
      rw [updP_same]
     ·rw [met_ne2 e]
      refine ⟨_, ⟨_, rfl, rfl, ⟨b, c, h1, vis_new h2 e, h3, rfl⟩⟩, Or.inl ⟨_, rfl, fun j hj => ?_⟩⟩
      show bitC (P b c) j = bitC (updP P t L b c) j
      rw [updP_ne e]
   ·intro a ha h
    obtain ⟨id, ix⟩ := a
    unfold metρ
    have g1 : Nat.beq id 870 = false := by
     cases e : Nat.beq id 870 with
     | false => rfl
     | true => have := Nat.eq_of_beq_eq_true e; have h : 1000 ≤ id := h; omega
    have g2 : Nat.beq id 871 = false := by
     cases e : Nat.beq id 871 with
     | false => rfl
     | true => have := Nat.eq_of_beq_eq_true e; have h : 1000 ≤ id := h; omega
    simp only [g1, g2, cond_false]
  refine AWp.ret ⟨Or.inl rfl, ?_⟩
  intro _
  refine zi rfl (zi zt (zi rfl (zi ?_ (zi ⟨_, _, rfl, rfl, fun i h => rfl⟩ (zi (fun q hq => atC_refs fun hv => ⟨q, hq, hv, rfl⟩) (zi ⟨_, _, rfl, fun z h => ⟨h, _, _, rfl, rfl, fun i h => rfl⟩⟩ (zi (fun z hz c hc => zi (atS_in hz hc) zt) (zi ⟨_, _, rfl, fun z h => ⟨h, _, _, rfl, rfl, fun i h => rfl⟩⟩ (zi (fun z h => zt) zt)))))))))
  all_goals repeat' (first|exact rfl|exact zt|apply zi)
 ·cases h1
def inS (S C : Nat → Bool) (w : Nat) : Nat → Bool := fun v => S v && (C v || !decide (v / 64 < w))
def metK (K L : Knw) : Knw := fun c v => K c v && L c v
def meC (K L : Knw) (i w : Nat) : Knw := fun c => if c < i then metK K L c else if c = i then inS (K c) (L c) w else K c
def newC (K L : Knw) (c w : Nat) : Bool := wrd (metK K L c) w != wrd (K c) w
def lsC (K L : Knw) (k : Nat) (i : Nat) : Bool := anyB (fun c => anyB (newC K L c) k) i
section
variable {K L : Knw} {i w j k c : Nat}
theorem anyB_succ {p : Nat → Bool} {n : Nat} : anyB p (n + 1) = (anyB p n || p n) := by unfold anyB; rw [List.range_succ, List.any_append]; simp
theorem lsC_iff : lsC K L k i = true ↔ ∃ c v, c < i ∧ v / 64 < k ∧ K c v = true ∧ L c v = false := by
 unfold lsC anyB
 rw [List.any_eq_true]
 constructor
 ·rintro ⟨c, hc, h⟩
  rw [List.any_eq_true] at h
  obtain ⟨w, hw, h⟩ := h
  have h0 : ¬ wrd (metK K L c) w = wrd (K c) w := by simpa [newC] using h
  rw [wrd_inj] at h0
  obtain ⟨t, h1⟩ := Classical.not_forall.1 h0
  obtain ⟨ht, h1⟩ := Classical.not_imp.1 h1
  refine ⟨c, 64 * w + t, List.mem_range.1 hc, by have := List.mem_range.1 hw; omega, ?_⟩
  unfold metK at h1
  cases hk : K c (64 * w + t) <;> cases hl : L c (64 * w + t) <;> simp_all
 ·rintro ⟨c, v, hc, hv, h1, h2⟩
  refine ⟨c, List.mem_range.2 hc, ?_⟩
  rw [List.any_eq_true]
  refine ⟨v / 64, List.mem_range.2 hv, ?_⟩
  unfold newC
  rw [bne_iff_ne]
  intro h
  have := wrd_inj.1 h (v - 64 * (v / 64)) (by omega)
  rw [show 64 * (v / 64) + (v - 64 * (v / 64)) = v by omega] at this
  unfold metK at this
  rw [h1, h2] at this; cases this
theorem inS_word : wrd (inS (K i) (L i) w) w = wrd (K i) w := wrd_congr fun t ht => by unfold inS; rw [decide_eq_false (by omega)]; simp
theorem inS_and : bits .and .u64 (wrd (inS (K i) (L i) w) w) (wrd (L i) w) = wrd (metK K L i) w := by rw [inS_word, wrd_and]; rfl
theorem inS_row : bitC (inS (K i) (L i) (w + 1)) j = if j = w then [AV.int .u64 (wrd (metK K L i) w)] else bitC (inS (K i) (L i) w) j := by
 by_cases e : j = w
 ·subst e; rw [if_pos rfl]
  exact congrArg (fun z => [AV.int .u64 z]) (wrd_congr fun t ht => by unfold inS metK; rw [decide_eq_true (by omega)]; simp)
 ·rw [if_neg e]
  exact congrArg (fun z => [AV.int .u64 z]) (wrd_congr fun t ht => by
   unfold inS
   by_cases g : j < w
   ·rw [decide_eq_true (by omega), decide_eq_true (by omega)]
   ·rw [decide_eq_false (by omega), decide_eq_false (by omega)])
theorem inS_same (h : newC K L i w = false) : bitC (inS (K i) (L i) (w + 1)) j = bitC (inS (K i) (L i) w) j := by
 have h0 : wrd (metK K L i) w = wrd (K i) w := by simpa [newC] using h
 rw [inS_row]
 by_cases e : j = w
 ·subst e; rw [if_pos rfl, h0, ← inS_word (K := K) (L := L)]
 ·rw [if_neg e]
theorem meC_at : meC K L i w i = inS (K i) (L i) w := by unfold meC; rw [if_neg (Nat.lt_irrefl _), if_pos rfl]
theorem meC_ne (h : c ≠ i) {w' : Nat} : meC K L i w c = meC K L i w' c := by unfold meC; rw [if_neg h, if_neg h]
theorem meC_same (h : newC K L i w = false) : bitC (meC K L i (w + 1) c) j = bitC (meC K L i w c) j := by
 by_cases e : c = i
 ·subst e; rw [meC_at, meC_at]; exact inS_same h
 ·rw [meC_ne e]
theorem meC_zero : bitC (meC K L 0 0 c) j = bitC (K c) j := by
 by_cases e : c = 0
 ·subst e
  rw [meC_at]
  exact congrArg (fun z => [AV.int .u64 z]) (wrd_congr fun t ht => by unfold inS; simp)
 ·unfold meC; rw [if_neg (Nat.not_lt_zero _), if_neg e]
theorem meC_next (hj : j < k) : bitC (meC K L (i + 1) 0 c) j = bitC (meC K L i k c) j := by
 by_cases e : c = i
 ·subst e
  rw [meC_at]
  unfold meC
  rw [if_pos (Nat.lt_succ_self _)]
  exact congrArg (fun z => [AV.int .u64 z]) (wrd_congr fun t ht => by unfold inS metK; rw [decide_eq_true (by omega)]; simp)
 ·by_cases g : c < i
  ·unfold meC; rw [if_pos (by omega), if_pos g]
  ·by_cases e2 : c = i + 1
   ·subst e2
    rw [meC_at]
    unfold meC
    rw [if_neg g, if_neg e]
    exact congrArg (fun z => [AV.int .u64 z]) (wrd_congr fun t ht => by unfold inS; simp)
   ·unfold meC; rw [if_neg (by omega), if_neg e2, if_neg g, if_neg e]
theorem meC_all {n : Nat} (h : c < n) : meC K L n 0 c = metK K L c := by unfold meC; rw [if_pos h]
end
theorem met_sub {n N k t i w : Nat} {vis : Nat → Bool} {P : Nat → Knw} {L : Knw} {z : List Nat} (hz : wdD n vis N z) {g : Nat → List AV} (hg : z = [t, i] → ∀ j, g j = if j = w then [AV.int .u64 (wrd (metK (P t) L i) w)] else bitC (inS (P t i) (L i) w) j) :
  sub1 (HO.sel (decide (z = [t, i])) (.row 172 1 k g) (rowU k (updP P t (meC (P t) L i w) (z.headD 0) (z.getD 1 0)))) (rowU k (updP P t (meC (P t) L i (w + 1)) (z.headD 0) (z.getD 1 0))) := by
 obtain ⟨b, c, h1, h2, h3, rfl⟩ := hz
 refine sub1_sel (fun e j hj => ?_) (fun e j hj => ?_)
 ·rw [hg e j]
  injection e with e1 e2; injection e2 with e2 _
  subst e1 e2
  show bitC (updP P b (meC (P b) L c (w + 1)) b c) j = _
  rw [updP_same, meC_at, inS_row]
 ·show bitC (updP P t (meC (P t) L i (w + 1)) b c) j = bitC (updP P t (meC (P t) L i w) b c) j
  by_cases e1 : b = t
  ·subst e1
   rw [updP_same, updP_same, meC_ne (w' := w) (fun h => e (by rw [h]))]
  ·rw [updP_ne e1, updP_ne e1]
theorem met_same {n N t : Nat} {vis : Nat → Bool} {P : Nat → Knw} {A C : Knw} {z : List Nat} (hz : wdD n vis N z) {i : Nat} (h : ∀ c, c < N → bitC (A c) i = bitC (C c) i) : bitC (updP P t A (z.headD 0) (z.getD 1 0)) i = bitC (updP P t C (z.headD 0) (z.getD 1 0)) i := by
 obtain ⟨b, c, h1, h2, h3, rfl⟩ := hz
 show bitC (updP P t A b c) i = bitC (updP P t C b c) i
 by_cases e : b = t
 ·subst e; rw [updP_same, updP_same]; exact h c h3
 ·rw [updP_ne e, updP_ne e]
theorem met_self {n N t : Nat} {vis : Nat → Bool} {P : Nat → Knw} {A : Knw} {z : List Nat} (hz : wdD n vis N z) {i : Nat} (h : ∀ c, c < N → bitC (A c) i = bitC (P t c) i) : bitC (updP P t A (z.headD 0) (z.getD 1 0)) i = bitC (P (z.headD 0) (z.getD 1 0)) i := by
 obtain ⟨b, c, h1, h2, h3, rfl⟩ := hz
 show bitC (updP P t A b c) i = bitC (P b c) i
 by_cases e : b = t
 ·subst e; rw [updP_same]; exact h c h3
 ·rw [updP_ne e]
set_option maxHeartbeats 8000000 in
theorem m_meetOld (f : Fun) (m : Mch) (o : Oup) {n N k : Nat} (hN : N ≤ 100000) (hN0 : 0 < N) (hk : k ≤ 1000000) (vis : Nat → Bool) (P : Nat → Knw) (L : Knw) (t : Nat) (ht : t < n) (hv : vis t = true) :
  ACallM B.P 91 ⟨[.obj 1001 0, .i64 t, .sl 1005 N], jgH f m o n vis N k P ++ [(1005, stR 1006 N k), (1006, stW N k L)], .bool (lsC (P t) L k N), jgH f m o n vis N k (updP P t (metK (P t) L))⟩ := by
 have hvE : atC 1003 vis N ((t : Nat) : Int).toNat = [.sl ⟨1003, [t]⟩ N] := atC_yes hv
 have hNm : N ≤ maxLen := by unfold maxLen; omega
 have hkm : k ≤ maxLen := by unfold maxLen; omega
 refine ACallM.enter B _ _ Try.func91 rfl rfl Try.ntmps91 Try.results91 rfl ?_ fun hreal => ?_
 ·refine zi (zi ?_ (zi (fun q hq => atC_refs fun hv => ⟨q, hq, hv, rfl⟩) (zi (fun z hz c hc => zi (atS_in hz hc) zt) (zi (fun z h => zt) (zi (fun i h => zi ⟨i, h, rfl⟩ zt) (zi (fun ix h => zt) zt)))))) (zi ?_ ?_)
  ·repeat' (first|exact rfl|exact zt|exact ⟨t, ht, hv, rfl⟩|refine zi ?_ ?_)
  ·repeat' (first|exact rfl|exact zt|exact ⟨t, ht, hv, rfl⟩|refine zi ?_ ?_)
  ·exact zi zt (zi zt (zi (fun z hz => hz) (zi (fun z hz => hz) (zi zt (zi zt zt)))))
 clear hreal
 repeat (first|apply zq|apply zb|apply zk)
 apply zr;intro _
 repeat (first|apply zq|apply zb|apply zk)
 apply zr
 repeat' (first|exact zt|refine zi ?_ ?_|rw [hvE]|fail)
 all_goals first|exact fun _ => nn (ht)|exact fun _ => ht|exact fun _ => hN0|skip
 intro _
 repeat (first|apply zq|apply zb|apply zk)
 refine AWp.cond (zi (fun h1 => ?_) (fun h1 => ?_))
 ·cases h1
 repeat (first|apply zq|apply zb|apply zk)
 apply zr;intro _
 repeat (first|apply zq|apply zb|apply zk)
 apply zr
 repeat' (first|exact zt|refine zi ?_ ?_|rw [hvE]|fail)
 all_goals first|exact fun _ => nn (ht)|exact fun _ => ht|skip
 intro _
 repeat (first|apply zq|apply zb|apply zk)
 refine AWp.loop (fun i : Nat => ⟨[(2, .sl 1005 N), (7, .bool (lsC (P t) L k i)), (33, .sl ⟨1003, [t]⟩ N), (34, .i64 N), (35, .i64 i)], [(1001, jgC f m o 1002 n), (1002, atR 1003 n vis N), (1003, atS 1004 n vis N k), (1004, atW n vis N k (updP P t (meC (P t) L i 0))), (1005, stR 1006 N k), (1006, stW N k L)]⟩) (fun i => i ≤ N) (fun i => N - i) 0 (Nat.zero_le _) ?_ ?_
 ·refine zi ?_ (zi rfl (zi ?_ (zi ⟨_, _, rfl, rfl, fun i h => rfl⟩ (zi (fun q hq => atC_refs fun hv => ⟨q, hq, hv, rfl⟩) (zi ⟨_, _, rfl, fun z h => ⟨h, _, _, rfl, rfl, fun i h => rfl⟩⟩ (zi (fun z hz c hc => zi (atS_in hz hc) zt) (zi (⟨_, _, rfl, fun z hz => ⟨hz, _, _, rfl, rfl, fun i hi => met_self hz fun c hc => meC_zero⟩⟩) (zi (fun z h => zt) (zi ⟨_, _, rfl, rfl, fun i h => rfl⟩ (zi (fun i h => zi ⟨i, h, rfl⟩ zt) (zi ⟨_, _, rfl, fun z h => ⟨h, _, _, rfl, rfl, fun i h => rfl⟩⟩ (zi (fun z h => zt) zt))))))))))))
  all_goals repeat' (first|exact rfl|exact zt|exact ⟨t, ht, hv, rfl⟩|refine zi ?_ ?_)
 intro i hi
 repeat (first|apply zq|apply zb|apply zk)
 apply zr;intro _
 repeat (first|apply zq|apply zb|apply zk)
 refine AWp.cond (zi (fun h2 => ?_) (fun h2 => ?_))
 ·have hi' : i < N := Int.ofNat_lt.1 (of_decide_eq_true h2)
  repeat (first|apply zq|apply zb|apply zk)
  apply zr
  repeat' (first|exact zt|refine zi ?_ ?_|fail)
  all_goals first|exact fun _ => nn (hi')|exact fun _ => hi'|exact fun _ => ⟨t, ht, hv, rfl⟩|skip
  intro _
  repeat (first|apply zq|apply zb|apply zk)
  apply zr;intro _
  repeat (first|apply zq|apply zb|apply zk)
  refine AWp.loop (fun w : Nat => ⟨[(2, .sl 1005 N), (7, .bool (lsC (P t) L k i || anyB (newC (P t) L i) w)), (8, .i64 i), (9, .sl ⟨1004, [t, i]⟩ k), (33, .sl ⟨1003, [t]⟩ N), (34, .i64 N), (35, .i64 i), (41, .i64 k), (42, .i64 w)], [(1001, jgC f m o 1002 n), (1002, atR 1003 n vis N), (1003, atS 1004 n vis N k), (1004, atW n vis N k (updP P t (meC (P t) L i w))), (1005, stR 1006 N k), (1006, stW N k L)]⟩) (fun w => w ≤ k) (fun w => k - w) 0 (Nat.zero_le _) ?_ ?_
  ·refine zi ?_ (zi rfl (zi ?_ (zi ⟨_, _, rfl, rfl, fun i h => rfl⟩ (zi (fun q hq => atC_refs fun hv => ⟨q, hq, hv, rfl⟩) (zi ⟨_, _, rfl, fun z h => ⟨h, _, _, rfl, rfl, fun i h => rfl⟩⟩ (zi (fun z hz c hc => zi (atS_in hz hc) zt) (zi ⟨_, _, rfl, fun z h => ⟨h, _, _, rfl, rfl, fun i h => rfl⟩⟩ (zi (fun z h => zt) (zi ⟨_, _, rfl, rfl, fun i h => rfl⟩ (zi (fun i h => zi ⟨i, h, rfl⟩ zt) (zi ⟨_, _, rfl, fun z h => ⟨h, _, _, rfl, rfl, fun i h => rfl⟩⟩ (zi (fun z h => zt) zt))))))))))))
   ·refine zi rfl (zi rfl (zi ?_ ?_))
    ·exact congrArg (fun q => some (AV.bool q)) (Bool.or_false _).symm
    ·repeat' (first|exact rfl|exact zt|exact ⟨t, ht, hv, rfl⟩|exact ⟨t, i, ht, hv, hi', rfl⟩|refine zi ?_ ?_)
   ·repeat' (first|exact rfl|exact zt|exact ⟨t, ht, hv, rfl⟩|exact ⟨t, i, ht, hv, hi', rfl⟩|refine zi ?_ ?_)
  intro w hw
  repeat (first|apply zq|apply zb|apply zk)
  apply zr;intro _
  repeat (first|apply zq|apply zb|apply zk)
  refine AWp.cond (zi (fun h3 => ?_) (fun h3 => ?_))
  ·have hw' : w < k := Int.ofNat_lt.1 (of_decide_eq_true h3)
   have e0 : updP P t (meC (P t) L i w) t i = inS (P t i) (L i) w := by rw [updP_same, meC_at]
   repeat (first|apply zq|apply zb|apply zk)
   apply zr;intro _
   repeat (first|apply zq|apply zb|apply zk)
   refine AWp.draw mixed (by kernel_rfl) ?_
   repeat' (first|exact zt|refine zi ?_ ?_|fail)
   all_goals first|exact fun _ => nn (hi')|exact fun _ => nn (hw')|exact fun _ => hi'|exact fun _ => hw'|exact hw'|exact fun _ => (show wdD n vis N [t, i] from ⟨t, i, ht, hv, hi', rfl⟩)|exact fun _ => (show inD N [i] from ⟨i, hi', rfl⟩)|skip
   intro _
   repeat (first|apply zq|apply zb|apply zk)
   apply zr
   repeat' (first|exact zt|refine zi ?_ ?_|fail)
   all_goals first|exact fun _ => nn (hi')|exact fun _ => nn (hw')|exact fun _ => hi'|exact fun _ => hw'|exact hw'|exact fun _ => (show wdD n vis N [t, i] from ⟨t, i, ht, hv, hi', rfl⟩)|exact fun _ => (show inD N [i] from ⟨i, hi', rfl⟩)|skip
   intro _
   repeat (first|apply zq|apply zb|apply zk)
   refine AWp.cond (zi (fun h4 => ?_) (fun h4 => ?_))
   ·have hn : newC (P t) L i w = true := by
     have h4 : (bits .and .u64 (wrd (updP P t (meC (P t) L i w) t i) w) (wrd (L i) w) != wrd (updP P t (meC (P t) L i w) t i) w) = true := h4
     rw [e0, inS_and, inS_word] at h4; exact h4
    repeat (first|apply zq|apply zb|apply zk)
    apply zr
    repeat' (first|exact zt|refine zi ?_ ?_|fail)
    all_goals first|exact fun _ => nn (hi')|exact fun _ => nn (hw')|exact fun _ => hi'|exact fun _ => hw'|exact hw'|exact fun _ => (show wdD n vis N [t, i] from ⟨t, i, ht, hv, hi', rfl⟩)|exact fun _ => (show inD N [i] from ⟨i, hi', rfl⟩)|skip
    intro _
    repeat (first|apply zq|apply zb|apply zk)
    apply zr;intro _
    refine round_end (w + 1) hw' ?_ (by omega)
    refine zi ?_ (zi rfl (zi ?_ (zi ⟨_, _, rfl, rfl, fun i h => rfl⟩ (zi (fun q hq => atC_refs fun hv => ⟨q, hq, hv, rfl⟩) (zi ⟨_, _, rfl, fun z h => ⟨h, _, _, rfl, rfl, fun i h => rfl⟩⟩ (zi (fun z hz c hc => zi (atS_in hz hc) zt) (zi (⟨_, _, rfl, fun z hz => ⟨hz, ?_⟩⟩) (zi (fun z h => zt) (zi ⟨_, _, rfl, rfl, fun i h => rfl⟩ (zi (fun i h => zi ⟨i, h, rfl⟩ zt) (zi ⟨_, _, rfl, fun z h => ⟨h, _, _, rfl, rfl, fun i h => rfl⟩⟩ (zi (fun z h => zt) zt))))))))))))
    ·refine zi rfl (zi rfl (zi ?_ ?_))
     ·refine congrArg (fun q => some (AV.bool q)) ?_
      rw [anyB_succ, hn, Bool.or_true, Bool.or_true]
     ·repeat' (first|exact rfl|exact zt|exact ⟨t, ht, hv, rfl⟩|exact ⟨t, i, ht, hv, hi', rfl⟩|exact congrArg (fun z => some (AV.i64 z)) (wrap_succ hw' hkm)|refine zi ?_ ?_)
    ·repeat' (first|exact rfl|exact zt|exact ⟨t, ht, hv, rfl⟩|exact ⟨t, i, ht, hv, hi', rfl⟩|exact congrArg (fun z => some (AV.i64 z)) (wrap_succ hw' hkm)|refine zi ?_ ?_)
    ·refine met_sub hz fun e j => ?_
     refine Eq.trans ?_ (congrArg (fun q => if j = w then [AV.int .u64 q] else bitC (inS (P t i) (L i) w) j) (inS_and (K := P t) (L := L) (i := i) (w := w)))
     rw [← e0]
     rfl
   ·have hn : newC (P t) L i w = false := by
     have h4 : (bits .and .u64 (wrd (updP P t (meC (P t) L i w) t i) w) (wrd (L i) w) != wrd (updP P t (meC (P t) L i w) t i) w) = false := h4
     rw [e0, inS_and, inS_word] at h4; exact h4
    repeat (first|apply zq|apply zb|apply zk)
    apply zr;intro _
    refine round_end (w + 1) hw' ?_ (by omega)
    refine zi ?_ (zi rfl (zi ?_ (zi ⟨_, _, rfl, rfl, fun i h => rfl⟩ (zi (fun q hq => atC_refs fun hv => ⟨q, hq, hv, rfl⟩) (zi ⟨_, _, rfl, fun z h => ⟨h, _, _, rfl, rfl, fun i h => rfl⟩⟩ (zi (fun z hz c hc => zi (atS_in hz hc) zt) (zi (⟨_, _, rfl, fun z hz => ⟨hz, _, _, rfl, rfl, fun i hi => met_same hz fun c hc => meC_same hn⟩⟩) (zi (fun z h => zt) (zi ⟨_, _, rfl, rfl, fun i h => rfl⟩ (zi (fun i h => zi ⟨i, h, rfl⟩ zt) (zi ⟨_, _, rfl, fun z h => ⟨h, _, _, rfl, rfl, fun i h => rfl⟩⟩ (zi (fun z h => zt) zt))))))))))))
    ·refine zi rfl (zi rfl (zi ?_ ?_))
     ·refine congrArg (fun q => some (AV.bool q)) ?_
      rw [anyB_succ, hn, Bool.or_false]
     ·repeat' (first|exact rfl|exact zt|exact ⟨t, ht, hv, rfl⟩|exact ⟨t, i, ht, hv, hi', rfl⟩|exact congrArg (fun z => some (AV.i64 z)) (wrap_succ hw' hkm)|refine zi ?_ ?_)
    ·repeat' (first|exact rfl|exact zt|exact ⟨t, ht, hv, rfl⟩|exact ⟨t, i, ht, hv, hi', rfl⟩|exact congrArg (fun z => some (AV.i64 z)) (wrap_succ hw' hkm)|refine zi ?_ ?_)
  ·have hw3 : ¬ (w : Int) < k := of_decide_eq_false h3
   obtain rfl : w = k := by omega
   apply ze
   repeat (first|apply zq|apply zb|apply zk)
   apply zr;intro _
   refine round_end (i + 1) hi' ?_ (by omega)
   refine zi ?_ (zi rfl (zi ?_ (zi ⟨_, _, rfl, rfl, fun i h => rfl⟩ (zi (fun q hq => atC_refs fun hv => ⟨q, hq, hv, rfl⟩) (zi ⟨_, _, rfl, fun z h => ⟨h, _, _, rfl, rfl, fun i h => rfl⟩⟩ (zi (fun z hz c hc => zi (atS_in hz hc) zt) (zi (⟨_, _, rfl, fun z hz => ⟨hz, _, _, rfl, rfl, fun i hi => met_same hz fun c hc => meC_next hi⟩⟩) (zi (fun z h => zt) (zi ⟨_, _, rfl, rfl, fun i h => rfl⟩ (zi (fun i h => zi ⟨i, h, rfl⟩ zt) (zi ⟨_, _, rfl, fun z h => ⟨h, _, _, rfl, rfl, fun i h => rfl⟩⟩ (zi (fun z h => zt) zt))))))))))))
   ·refine zi rfl (zi rfl (zi ?_ ?_))
    ·refine congrArg (fun q => some (AV.bool q)) ?_
     exact anyB_succ.symm
    ·repeat' (first|exact rfl|exact zt|exact ⟨t, ht, hv, rfl⟩|exact ⟨t, i, ht, hv, hi', rfl⟩|exact congrArg (fun z => some (AV.i64 z)) (wrap_succ hi' hNm)|refine zi ?_ ?_)
   ·repeat' (first|exact rfl|exact zt|exact ⟨t, ht, hv, rfl⟩|exact ⟨t, i, ht, hv, hi', rfl⟩|exact congrArg (fun z => some (AV.i64 z)) (wrap_succ hi' hNm)|refine zi ?_ ?_)
 ·have hi3 : ¬ (i : Int) < N := of_decide_eq_false h2
  obtain rfl : i = N := by omega
  apply ze
  repeat (first|apply zq|apply zb|apply zk)
  apply zr;intro _
  refine AWp.ret ⟨Or.inl rfl, ?_⟩
  intro _
  refine zi rfl (zi zt (zi rfl (zi ?_ (zi ⟨_, _, rfl, rfl, fun i h => rfl⟩ (zi (fun q hq => atC_refs fun hv => ⟨q, hq, hv, rfl⟩) (zi ⟨_, _, rfl, fun z h => ⟨h, _, _, rfl, rfl, fun i h => rfl⟩⟩ (zi (fun z hz c hc => zi (atS_in hz hc) zt) (zi (⟨_, _, rfl, fun z hz => ⟨hz, _, _, rfl, rfl, fun i hi => met_same hz fun c hc => congrArg (fun q => bitC q i) (meC_all hc).symm⟩⟩) (zi (fun z h => zt) zt)))))))))
  repeat' (first|exact rfl|exact zt|exact ⟨t, ht, hv, rfl⟩|refine zi ?_ ?_)
@[reducible] def edT (f : Fun) (b q : Nat) : Nat := ((f.Blocks.getD b default).Edges.getD q default).Block.toNat
@[reducible] def edE (f : Fun) (b q : Nat) : Edg := (f.Blocks.getD b default).Edges.getD q default
structure JI (f : Fun) (o : Oup) (N : Nat) (vis : Nat → Bool) (P : Nat → Knw) (T : List Nat) : Prop where
 v0 : vis 0 = true
 p0 : P 0 = fun _ => nonS
 lo : ∀ b, b < f.Blocks.length → vis b = true → Le N f.Values.length (sur f o N b) (P b)
 sp : ∀ b, b < f.Blocks.length → vis b = true → Spt f.Values.length (P b)
 nd : T.Nodup
 td : ∀ b ∈ T, b < f.Blocks.length ∧ vis b = true
def Ed1 (f : Fun) (o : Oup) (N : Nat) (vis : Nat → Bool) (P : Nat → Knw) (s : Knw) (b q : Nat) : Prop :=
 vis (edT f b q) = true ∧ Le N f.Values.length (P (edT f b q)) (alK f (edE f b q) s)
def EdA (f : Fun) (o : Oup) (N : Nat) (vis : Nat → Bool) (P : Nat → Knw) (b : Nat) : Prop := ∀ q, q < (f.Blocks.getD b default).Edges.length → Ed1 f o N vis P (thK f o b (P b)) b q
structure JO (f : Fun) (o : Oup) (N : Nat) (vis : Nat → Bool) (P : Nat → Knw) (T : List Nat) : Prop where
 i : JI f o N vis P T
 cl : ∀ b, b < f.Blocks.length → vis b = true → b ∉ T → EdA f o N vis P b
structure JN (f : Fun) (o : Oup) (N : Nat) (b : Nat) (K0 : Knw) (q : Nat) (vis : Nat → Bool) (P : Nat → Knw) (T : List Nat) : Prop where
 i : JI f o N vis P T
 vb : vis b = true
 lo0 : Le N f.Values.length (sur f o N b) K0
 sp0 : Spt f.Values.length K0
 cl : ∀ c, c < f.Blocks.length → vis c = true → c ∉ T → c ≠ b → EdA f o N vis P c
 own : b ∉ T → Le N f.Values.length K0 (P b)
 ed : ∀ r, r < q → Ed1 f o N vis P (thK f o b K0) b r
section
variable {f : Fun} {m : Mch} {o : Oup} {fr : Nat} {vis : Nat → Bool} {P : Nat → Knw} {T : List Nat} {b q : Nat} {K0 : Knw}
theorem JO.pop (h : JO f o (22 + fr) vis P (b :: T)) : JN f o (22 + fr) b (P b) 0 vis P T := by
 have hb := h.i.td b (List.mem_cons_self ..)
 have hnd := List.nodup_cons.1 h.i.nd
 exact ⟨⟨h.i.v0, h.i.p0, h.i.lo, h.i.sp, hnd.2, fun c hc => h.i.td c (List.mem_cons_of_mem _ hc)⟩, hb.2, h.i.lo b hb.1 hb.2, h.i.sp b hb.1 hb.2, fun c hc hv hT hne => h.cl c hc hv (fun hm => (List.mem_cons.1 hm).elim (fun e => hne e) hT), fun _ => Le.refl, fun r hr => absurd hr (Nat.not_lt_zero _)⟩
theorem JN.done (hO : OutOk f m o fr) (hb : b < f.Blocks.length) (h : JN f o (22 + fr) b K0 (f.Blocks.getD b default).Edges.length vis P T) : JO f o (22 + fr) vis P T := by
 have hC := chkd_of hO.chk0
 refine ⟨h.i, fun c hc hv hT => ?_⟩
 by_cases e : c = b
 ·subst e
  intro q hq
  obtain ⟨h1, h2⟩ := h.ed q hq
  refine ⟨h1, h2.trans (alK_le (thK_le hO hb (h.own hT)) fun j hj => arg_lt hC hb hq j ?_)⟩
  rw [← edgP_len hO.chk0 hb hq]; exact hj
 ·exact h.cl c hc hv hT e
theorem edT_lt (hC : Chkd f) (hb : b < f.Blocks.length) (hq : q < (f.Blocks.getD b default).Edges.length) : 0 < edT f b q ∧ edT f b q < f.Blocks.length := by
 have := hC.e.edge b q hb hq
 constructor <;> show _ < _ <;> unfold edT <;> omega
theorem along_lo (hO : OutOk f m o fr) (hb : b < f.Blocks.length) (hq : q < (f.Blocks.getD b default).Edges.length) (h : Le (22 + fr) f.Values.length (sur f o (22 + fr) b) K0) : Le (22 + fr) f.Values.length (sur f o (22 + fr) (edT f b q)) (alK f (edE f b q) (thK f o b K0)) := by
 have hC := chkd_of hO.chk0
 have hp := sur_post (f := f) (o := o) hO fun b k hb hk => edgP_len hO.chk0 hb hk
 refine (hp.edge b q hb hq).trans (alK_le (thK_le hO hb h) fun j hj => arg_lt hC hb hq j ?_)
 rw [← edgP_len hO.chk0 hb hq]; exact hj
theorem param_lt (hC : Chkd f) {c : Nat} (hc : c < f.Blocks.length) : ∀ j, j < (f.Blocks.getD c default).Params.length → 0 ≤ (f.Blocks.getD c default).Params.getD j default ∧ (f.Blocks.getD c default).Params.getD j default < f.Values.length := by
 intro j hj
 have hm : (f.Blocks.getD c default).Params.getD j default ∈ makL f := by
  unfold makL mkB
  rw [List.mem_flatMap]
  refine ⟨f.Blocks.getD c default, ?_, List.mem_append_left _ (getD_mem hj)⟩
  rw [List.take_length]; exact getD_mem hc
 exact (nodup_of hC.ok).2 _ hm
theorem along_sp (hO : OutOk f m o fr) (hb : b < f.Blocks.length) (hq : q < (f.Blocks.getD b default).Edges.length) (h : Spt f.Values.length K0) : Spt f.Values.length (alK f (edE f b q) (thK f o b K0)) := by
 have hC := chkd_of hO.chk0
 refine alK_spt (thK_spt hC hb h) fun j hj => ?_
 have := param_lt hC (edT_lt hC hb hq).2 j hj
 show ((f.Blocks.getD (edT f b q) default).Params.getD j default).toNat < _
 omega
theorem JN.new (hO : OutOk f m o fr) (hb : b < f.Blocks.length) (hq : q < (f.Blocks.getD b default).Edges.length) (h : JN f o (22 + fr) b K0 q vis P T) (hv : ¬ vis (edT f b q) = true) :
  edT f b q ∉ T ∧ JN f o (22 + fr) b K0 (q + 1) (visT vis (edT f b q)) (updP P (edT f b q) (alK f (edE f b q) (thK f o b K0))) (T ++ [edT f b q]) := by
 have hC := chkd_of hO.chk0
 obtain ⟨ht0, htn⟩ := edT_lt hC hb hq
 generalize ht : edT f b q = t at *
 have hnT : t ∉ T := fun hm => hv (h.i.td t hm).2
 have hne : ∀ c, vis c = true → c ≠ t := fun c hc e => hv (by rw [← e]; exact hc)
 have vT : ∀ c, vis c = true → visT vis t c = true := fun c hc => by unfold visT; rw [hc]; rfl
 have e1 : ∀ (s : Knw) (c r : Nat), Ed1 f o (22 + fr) vis P s c r → Ed1 f o (22 + fr) (visT vis t) (updP P t (alK f (edE f b q) (thK f o b K0))) s c r := fun s c r ⟨g1, g2⟩ => ⟨vT _ g1, by rw [updP_ne (hne _ g1)]; exact g2⟩
 refine ⟨hnT, ⟨⟨vT 0 h.i.v0, ?_, fun c hc hcv => ?_, fun c hc hcv => ?_, ?_, fun c hc => ?_⟩, vT b h.vb, h.lo0, h.sp0, fun c hc hcv hcT hcb => ?_, fun hbT => ?_, fun r hr => ?_⟩⟩
 ·rw [updP_ne (by omega)]; exact h.i.p0
 ·by_cases e : c = t
  ·subst e; rw [updP_same, ← ht]; exact along_lo hO hb hq h.lo0
  ·rw [updP_ne e]; exact h.i.lo c hc (vis_new hcv e)
 ·by_cases e : c = t
  ·subst e; rw [updP_same]; exact along_sp hO hb hq h.sp0
  ·rw [updP_ne e]; exact h.i.sp c hc (vis_new hcv e)
 ·exact List.nodup_append.2 ⟨h.i.nd, by simp, fun a ha c hc => by simp only [List.mem_singleton] at hc; subst hc; exact fun e => hnT (e ▸ ha)⟩
 ·rcases List.mem_append.1 hc with hc | hc
  ·exact ⟨(h.i.td c hc).1, vT c (h.i.td c hc).2⟩
  ·simp only [List.mem_singleton] at hc; subst hc
   exact ⟨htn, by unfold visT; rw [decide_eq_true rfl, Bool.or_true]⟩
 ·have hct : c ≠ t := fun e => hcT (List.mem_append_right _ (by simp [e]))
  have hcv' := vis_new hcv hct
  intro r hr
  rw [updP_ne hct]
  exact e1 _ c r (h.cl c hc hcv' (fun hm => hcT (List.mem_append_left _ hm)) hcb r hr)
 ·have hbt : b ≠ t := hne b h.vb
  rw [updP_ne hbt]
  exact h.own fun hm => hbT (List.mem_append_left _ hm)
 ·by_cases e : r = q
  ·subst e
   refine ⟨by show visT vis t (edT f b r) = true; rw [ht]; unfold visT; rw [decide_eq_true rfl, Bool.or_true], ?_⟩
   show Le _ _ (updP P t _ (edT f b r)) _
   rw [ht, updP_same]; exact Le.refl
  ·exact e1 _ b r (h.ed r (by omega))
theorem JN.old (hO : OutOk f m o fr) (hb : b < f.Blocks.length) (hq : q < (f.Blocks.getD b default).Edges.length) (h : JN f o (22 + fr) b K0 q vis P T) (hv : vis (edT f b q) = true) {T' : List Nat}
  (hT : T' = T ∨ (edT f b q ∉ T ∧ T' = T ++ [edT f b q])) (hless : edT f b q ∉ T' → Le (22 + fr) f.Values.length (P (edT f b q)) (metK (P (edT f b q)) (alK f (edE f b q) (thK f o b K0)))) :
  JN f o (22 + fr) b K0 (q + 1) vis (updP P (edT f b q) (metK (P (edT f b q)) (alK f (edE f b q) (thK f o b K0)))) T' := by
 have hC := chkd_of hO.chk0
 obtain ⟨ht0, htn⟩ := edT_lt hC hb hq
 generalize ht : edT f b q = t at *
 have hsub : ∀ c, c ∈ T → c ∈ T' := fun c hc => by
  rcases hT with rfl | ⟨_, rfl⟩
  ·exact hc
  ·exact List.mem_append_left _ hc
 have dn : ∀ c, Le (22 + fr) f.Values.length (updP P t (metK (P t) (alK f (edE f b q) (thK f o b K0))) c) (P c) := fun c => by
  by_cases e : c = t
  ·subst e; rw [updP_same]
   intro a v _ _ hk
   unfold metK at hk
   rw [Bool.and_eq_true] at hk; exact hk.1
  ·rw [updP_ne e]; exact Le.refl
 have up : ∀ c, c ∉ T' → Le (22 + fr) f.Values.length (P c) (updP P t (metK (P t) (alK f (edE f b q) (thK f o b K0))) c) := fun c hc => by
  by_cases e : c = t
  ·subst e; rw [updP_same]; exact hless hc
  ·rw [updP_ne e]; exact Le.refl
 have e1 : ∀ (s : Knw) (c r : Nat), Ed1 f o (22 + fr) vis P s c r → Ed1 f o (22 + fr) vis (updP P t (metK (P t) (alK f (edE f b q) (thK f o b K0)))) s c r := fun s c r ⟨g1, g2⟩ => ⟨g1, (dn _).trans g2⟩
 refine ⟨⟨h.i.v0, ?_, fun c hc hcv => ?_, fun c hc hcv => ?_, ?_, fun c hc => ?_⟩, h.vb, h.lo0, h.sp0, fun c hc hcv hcT hcb => ?_, fun hbT => ?_, fun r hr => ?_⟩
 ·rw [updP_ne (by omega)]; exact h.i.p0
 ·by_cases e : c = t
  ·subst e
   rw [updP_same]
   have g1 := h.i.lo c hc hcv
   have g2 : Le (22 + fr) f.Values.length (sur f o (22 + fr) c) (alK f (edE f b q) (thK f o b K0)) := by rw [← ht]; exact along_lo hO hb hq h.lo0
   intro a v ha hv hk
   unfold metK
   rw [g1 a v ha hv hk, g2 a v ha hv hk]; rfl
  ·rw [updP_ne e]; exact h.i.lo c hc hcv
 ·by_cases e : c = t
  ·subst e
   rw [updP_same]
   intro a v hv
   unfold metK
   rw [h.i.sp c hc hcv a v hv]; rfl
  ·rw [updP_ne e]; exact h.i.sp c hc hcv
 ·rcases hT with rfl | ⟨hn, rfl⟩
  ·exact h.i.nd
  ·exact List.nodup_append.2 ⟨h.i.nd, by simp, fun a ha c hc => by simp only [List.mem_singleton] at hc; subst hc; exact fun e => hn (e ▸ ha)⟩
 ·rcases hT with rfl | ⟨hn, rfl⟩
  ·exact h.i.td c hc
  ·rcases List.mem_append.1 hc with hc | hc
   ·exact h.i.td c hc
   ·simp only [List.mem_singleton] at hc; subst hc; exact ⟨htn, hv⟩
 ·intro r hr
  obtain ⟨g1, g2⟩ := h.cl c hc hcv (fun hm => hcT (hsub c hm)) hcb r hr
  refine ⟨g1, (dn _).trans (g2.trans (alK_le (thK_le hO hc (up c hcT)) fun j hj => arg_lt hC hc hr j ?_))⟩
  rw [← edgP_len hO.chk0 hc hr]; exact hj
 ·exact (h.own fun hm => hbT (hsub b hm)).trans (up b hbT)
 ·by_cases e : r = q
  ·subst e
   refine ⟨by show vis (edT f b r) = true; rw [ht]; exact hv, ?_⟩
   show Le _ _ (updP P t _ (edT f b r)) _
   rw [ht, updP_same]
   intro a v _ _ hk
   unfold metK at hk
   rw [Bool.and_eq_true] at hk; exact hk.2
  ·exact e1 _ b r (h.ed r (by omega))
theorem JO.fin (hO : OutOk f m o fr) (hA : AllTo f) (h : JO f o (22 + fr) vis P []) : ∀ b, b < f.Blocks.length → vis b = true ∧ ∀ c, c < 22 + fr → P b c = sur f o (22 + fr) b c := by
 have hC := chkd_of hO.chk0
 have hv : ∀ b, b < f.Blocks.length → vis b = true := by
  have : ∀ b, Rch (scF f) (-1) b → b < f.Blocks.length ∧ vis b = true := by
   intro b hr
   induction hr with
   | root h0 => exact ⟨by have := hC.e.siz.blocks; omega, h.i.v0⟩
   | @step a c _ hc2 hw ih =>
    refine ⟨hC.e.sc a c ih.1 hc2, ?_⟩
    obtain ⟨j, hj, rfl⟩ : ∃ j, j < (f.Blocks.getD a default).Edges.length ∧ edT f a j = c := by
     unfold scF at hc2
     obtain ⟨e, he, rfl⟩ := List.mem_map.1 hc2
     obtain ⟨j, hj, rfl⟩ := getD_of_mem he
     exact ⟨j, hj, rfl⟩
    exact (h.cl a ih.1 ih.2 (by simp) j hj).1
  exact fun b hb => (this b (hA b hb)).2
 have hp : Post f o (22 + fr) P := ⟨fun c v _ _ => by rw [h.i.p0]; rfl, fun b k hb hk => (h.cl b hb (hv b hb) (by simp) k hk).2⟩
 exact fun b hb => ⟨hv b hb, fun c hc => sur_eqS hp (h.i.lo b hb (hv b hb)) (h.i.sp b hb (hv b hb)) hc⟩
theorem JO.start (hO : OutOk f m o fr) : JO f o (22 + fr) (fun b => decide (b = 0)) (fun _ _ => nonS) [0] := by
 have hC := chkd_of hO.chk0
 have hb := hC.e.siz.blocks
 refine ⟨⟨rfl, rfl, fun b hb hv => ?_, fun b hb hv c v _ => rfl, by simp, fun b hb2 => ?_⟩, fun b hb hv hT => ?_⟩
 ·have e : b = 0 := of_decide_eq_true hv
  subst e
  intro c v hc hv hk
  have hp := sur_post (f := f) (o := o) hO fun b k hb hk => edgP_len hO.chk0 hb hk
  rw [hp.none c v hc hv] at hk; cases hk
 ·simp only [List.mem_singleton] at hb2; subst hb2; exact ⟨by omega, rfl⟩
 ·have e : b = 0 := of_decide_eq_true hv
  subst e; exact absurd (List.mem_singleton.2 rfl) hT
end
def qQ (vis : Nat → Bool) (P : Nat → Knw) : Nat → Knw := fun b c v => !vis b || P b c v
def mu0 (n N V : Nat) (vis : Nat → Bool) (P : Nat → Knw) : Nat := cn3 n N V (qQ vis P) + cnB (fun b => !vis b) n
section
variable {n N V t : Nat} {vis : Nat → Bool} {P : Nat → Knw} {L : Knw}
theorem mu_new (ht : t < n) (hv : ¬ vis t = true) : mu0 n N V (visT vis t) (updP P t L) < mu0 n N V vis P := by
 have hvf : vis t = false := by simpa using hv
 have h1 : cn3 n N V (qQ (visT vis t) (updP P t L)) ≤ cn3 n N V (qQ vis P) := cn3_le fun b c v _ _ _ hk => by
  unfold qQ at *
  by_cases e : b = t
  ·subst e; rw [hvf]; rfl
  ·rw [updP_ne e] at hk
   unfold visT at hk
   rw [decide_eq_false e, Bool.or_false] at hk; exact hk
 have h2 : cnB (fun b => !visT vis t b) n < cnB (fun b => !vis b) n := cnB_lt (fun b _ hk => by
  unfold visT at hk
  cases h : vis b with
  | false => rfl
  | true => rw [h] at hk; simp at hk) ⟨t, ht, by unfold visT; simp, by rw [hvf]; rfl⟩
 unfold mu0; omega
theorem mu_le (ht : t < n) : mu0 n N V vis (updP P t (metK (P t) L)) ≤ mu0 n N V vis P := by
 have h1 : cn3 n N V (qQ vis (updP P t (metK (P t) L))) ≤ cn3 n N V (qQ vis P) := cn3_le fun b c v _ _ _ hk => by
  unfold qQ at *
  by_cases e : b = t
  ·subst e
   rw [updP_same] at hk
   cases h : vis b with
   | false => rfl
   | true =>
    rw [h] at hk
    unfold metK at hk
    simp only [Bool.not_true, Bool.false_or, Bool.and_eq_true] at hk ⊢; exact hk.1
  ·rw [updP_ne e] at hk; exact hk
 unfold mu0; omega
theorem mu_lt (ht : t < n) (hv : vis t = true) {c v : Nat} (hc : c < N) (hvv : v < V) (h1 : P t c v = true) (h2 : L c v = false) : mu0 n N V vis (updP P t (metK (P t) L)) < mu0 n N V vis P := by
 have h1 : cn3 n N V (qQ vis (updP P t (metK (P t) L))) < cn3 n N V (qQ vis P) := cn3_lt (fun b c v _ _ _ hk => by
  unfold qQ at *
  by_cases e : b = t
  ·subst e
   rw [updP_same] at hk
   cases h : vis b with
   | false => rfl
   | true =>
    rw [h] at hk
    unfold metK at hk
    simp only [Bool.not_true, Bool.false_or, Bool.and_eq_true] at hk ⊢; exact hk.1
  ·rw [updP_ne e] at hk; exact hk) ht hc hvv (by unfold qQ; rw [updP_same, hv]; unfold metK; rw [h2]; simp) (by unfold qQ; rw [hv, h1]; rfl)
 unfold mu0; omega
theorem mu_max : mu0 n N V vis P ≤ n * (N * V) + n := by
 have := cn3_max (n := n) (N := N) (V := V) (A := qQ vis P)
 have := cnB_max (p := fun b => !vis b) (n := n)
 unfold mu0; omega
end
def shρ (nm : Nm) : Option Nm := bif Nat.beq nm.id 860 then some ⟨862, nm.ix⟩ else bif Nat.beq nm.id 861 then some ⟨863, nm.ix⟩ else some nm
theorem shρ_inj {p : Nm → Prop} (h2 : ∀ ix, ¬ p ⟨862, ix⟩) (h3 : ∀ ix, ¬ p ⟨863, ix⟩) : ∀ a b c : Nm, p a → p b → shρ a = some c → shρ b = some c → a = b := by
 intro a b c pa pb ha hb
 obtain ⟨ai, ax⟩ := a
 obtain ⟨bi, bx⟩ := b
 unfold shρ at ha hb
 simp only at ha hb
 cases e1 : Nat.beq ai 860 <;> cases e2 : Nat.beq bi 860 <;> cases e3 : Nat.beq ai 861 <;> cases e4 : Nat.beq bi 861 <;> simp only [e1, e2, e3, e4, cond_true, cond_false, Option.some.injEq] at ha hb
 all_goals (try have g1 := Nat.eq_of_beq_eq_true e1) <;> (try have g2 := Nat.eq_of_beq_eq_true e2) <;> (try have g3 := Nat.eq_of_beq_eq_true e3) <;> (try have g4 := Nat.eq_of_beq_eq_true e4)
 all_goals have h := ha.trans hb.symm
 all_goals simp only [Nm.mk.injEq] at h
 all_goals first
  | (rw [h.1, h.2]; done)
  | (rw [g1, g2, h.2]; done)
  | (rw [g3, g4, h.2]; done)
  | (exfalso; rw [h.1] at pa; exact h2 _ pa)
  | (exfalso; rw [h.1] at pa; exact h3 _ pa)
  | (exfalso; rw [← h.1] at pb; exact h2 _ pb)
  | (exfalso; rw [← h.1] at pb; exact h3 _ pb)
  | (exfalso; have := h.1; omega)
theorem shρ_old (p : Nm → Prop) : ∀ a : Nm, p a → 1000 ≤ a.id → shρ a = some a := by
 intro a _ h
 obtain ⟨id, ix⟩ := a
 unfold shρ
 have g1 : Nat.beq id 860 = false := by
  cases e : Nat.beq id 860 with
  | false => rfl
  | true => have := Nat.eq_of_beq_eq_true e; have h : 1000 ≤ id := h; omega
 have g2 : Nat.beq id 861 = false := by
  cases e : Nat.beq id 861 with
  | false => rfl
  | true => have := Nat.eq_of_beq_eq_true e; have h : 1000 ≤ id := h; omega
 simp only [g1, g2, cond_false]
theorem atC_rn {ρ : Nm → Option Nm} {W W' N b : Nat} {vis : Nat → Bool} (h : ∀ b, ρ ⟨W, [b]⟩ = some ⟨W', [b]⟩) : AV.rnL ρ (atC W vis N b) = atC W' vis N b := by
 by_cases e : vis b = true
 ·rw [atC_yes e, atC_yes e]; simp only [AV.rnL, AV.rn, h b]
 ·rw [atC_no e, atC_no e]; rfl
theorem atC_frz {W N b id : Nat} {o : HO} {vis : Nat → Bool} (h : Nat.beq W id = false) : AV.frzL id o (atC W vis N b) = atC W vis N b := by
 by_cases e : vis b = true
 ·rw [atC_yes e]
  show [AV.frz id o (.sl ⟨W, [b]⟩ N)] = _
  simp only [AV.frz, h, cond_false]
 ·rw [atC_no e]; rfl
def inρ (nm : Nm) : Option Nm := bif Nat.beq nm.id 860 then some ⟨854, []⟩ else bif Nat.beq nm.id 861 then some ⟨855, [nm.ix.getD 1 0]⟩ else some nm
theorem inρ_row {b N : Nat} : (if b = 0 then [AV.sl ⟨854, []⟩ N] else [nilV]) = AV.rnL inρ (atC 860 (fun b => decide (b = 0)) N b) := by
 by_cases e : b = 0
 ·subst e; rw [if_pos rfl, atC_yes (decide_eq_true rfl)]; rfl
 ·rw [if_neg e, atC_no (by simp [e])]; rfl
theorem rep_so0 {F : Nat → Prop} {w : World} {τ : Nm → Option Value} {id : Nm} {n esz : Nat} {v : Value} (h : Rep F w τ (.sl id n) v) : Rep F w τ (.so id esz 0 n) v := by
 cases h with
 | sl _ _ _ A m c hb hn hm hA =>
  have := Rep.so (F := F) (w := w) τ id esz 0 n A m c A hb (by omega) hm hA (fun _ => by
   cases A with
   | none => rfl
   | some a => simp [Addr.add]) (fun h => by obtain ⟨b, rfl⟩ := hA h; simp)
  simpa using this
theorem c_ContD (L : List Nat) (off t : Nat) {z : Int} (hz : (t : Int) = z) (hlen : L.length ≤ maxLen) : ACallIs B.P 85 [.ro 1 (L.length - off) (fun i => natC (L.getD (off + i) 0)), .i64 z] (.bool (decide (t ∈ L.drop off))) := by
 subst hz
 have h := c_ContainsN (L.drop off) t (by rw [List.length_drop]; omega)
 have e1 : (L.drop off).length = L.length - off := List.length_drop ..
 have e2 : (fun i => natC ((L.drop off).getD i 0)) = fun i => natC (L.getD (off + i) 0) := funext fun i => by rw [List.getD_eq_getElem?_getD, List.getElem?_drop, List.getD_eq_getElem?_getD]
 unfold natsL at h
 rw [e1, e2] at h
 exact h
theorem snocZ {L : List Nat} {v i : Nat} {z : Int} (hz : (v : Int) = z) (hi : i < (L ++ [v]).length) : natC ((L ++ [v]).getD i 0) = if i < L.length then natC (L.getD i 0) else ([[AV.val (Value.int IntKind.i64 z)]].getD (i - L.length) []) := by
 subst hz; exact snocN_row hi
theorem snocD {L : List Nat} {off v i : Nat} {z : Int} (hz : (v : Int) = z) (hi : i < (L.drop off ++ [v]).length) : natC ((L.drop off ++ [v]).getD i 0) = if i < L.length - off then natC (L.getD (off + i) 0) else ([[AV.val (Value.int IntKind.i64 z)]].getD (i - (L.length - off)) []) := by
 rw [snocZ hz hi, List.length_drop]
 by_cases e : i < L.length - off
 ·rw [if_pos e, if_pos e, List.getD_eq_getElem?_getD, List.getElem?_drop, List.getD_eq_getElem?_getD]
 ·rw [if_neg e, if_neg e]
theorem drop_cons {L : List Nat} {off : Nat} (h : off < L.length) : L.drop off = L.getD off 0 :: L.drop (off + 1) := by
 rw [List.drop_eq_getElem_cons h, List.getD_eq_getElem?_getD, List.getElem?_eq_getElem h]; rfl
theorem m_meetNewZ (f : Fun) (m : Mch) (o : Oup) {n N k : Nat} (vis : Nat → Bool) (P : Nat → Knw) (L : Knw) (t : Nat) {z : Int} (hz : (t : Int) = z) (ht : t < n) (hv : ¬ vis t = true) :
  ACallM B.P 91 ⟨[.obj 1001 0, .i64 z, .sl 1005 N], jgH f m o n vis N k P ++ [(1005, stR 1006 N k), (1006, stW N k L)], .bool true, newH f m o n (visT vis t) N k (updP P t L)⟩ := by
 subst hz; exact m_meetNew f m o vis P L t ht hv
theorem m_meetOldZ (f : Fun) (m : Mch) (o : Oup) {n N k : Nat} (hN : N ≤ 100000) (hN0 : 0 < N) (hk : k ≤ 1000000) (vis : Nat → Bool) (P : Nat → Knw) (L : Knw) (t : Nat) {z : Int} (hz : (t : Int) = z) (ht : t < n) (hv : vis t = true) :
  ACallM B.P 91 ⟨[.obj 1001 0, .i64 z, .sl 1005 N], jgH f m o n vis N k P ++ [(1005, stR 1006 N k), (1006, stW N k L)], .bool (lsC (P t) L k N), jgH f m o n vis N k (updP P t (metK (P t) L))⟩ := by
 subst hz; exact m_meetOld f m o hN hN0 hk vis P L t ht hv
theorem lsC_no {P L : Knw} {k N V : Nat} (hk : ∀ v, v < V → v / 64 < k) (h : lsC P L k N = false) : Le N V P (metK P L) := by
 intro c v hc hv hp
 unfold metK
 rw [hp]
 cases hl : L c v with
 | true => rfl
 | false => rw [lsC_iff.2 ⟨c, v, hc, hk v hv, hp, hl⟩] at h; cases h
theorem JI.sp_lt {f : Fun} {o : Oup} {N : Nat} {vis : Nat → Bool} {P : Nat → Knw} {T : List Nat} (h : JI f o N vis P T) {t c v : Nat} (ht : t < f.Blocks.length) (hv : vis t = true) (hk : P t c v = true) : v < f.Values.length := Classical.byContradiction fun hn => by
 rw [h.sp t ht hv c v (by omega)] at hk; cases hk
set_option maxHeartbeats 16000000 in
theorem m_settle (f : Fun) (hC : Chkd f) (m : Mch) (o : Oup) (hok : Oup.ok o) {fr k : Nat} (hfr : fr ≤ 1000) (hk : k = nW f.Values.length) (hO : OutOk f m o fr) (hA : AllTo f) :
  ACallM B.P 50 ⟨[.obj 1001 0], [(1001, .cells (f.cells ++ m.cells ++ o.cells ++ [nilV]))], .tup [], [(1001, jgC f m o 14 f.Blocks.length), (14, atR 860 f.Blocks.length (fun _ => true) (22 + fr)), (860, atS 861 f.Blocks.length (fun _ => true) (22 + fr) k), (861, atW f.Blocks.length (fun _ => true) (22 + fr) k (sur f o (22 + fr)))]⟩ := by
 have hz5 := hC.e.siz
 have hvl := hz5.values
 have hbl := hz5.blocks
 have hkk : k ≤ 1000000 := by subst hk; show (f.Values.length + 63) / 64 ≤ _; omega
 have hvk : ∀ v, v < f.Values.length → v / 64 < k := fun v hv => by subst hk; show v / 64 < (f.Values.length + 63) / 64; omega
 have hC0 : (f.Blocks.length * ((22 + fr) * f.Values.length) + f.Blocks.length + 1) ≤ 10000000 := by
  have h1 : f.Blocks.length * ((22 + fr) * f.Values.length) ≤ 16 * (1022 * 160) := Nat.mul_le_mul hbl.2 (Nat.mul_le_mul (by omega) hvl)
  omega
 refine ACallM.enter B _ _ Try.func50 rfl rfl Try.ntmps50 Try.results50 rfl ?_ fun hreal => ?_
 ·refine zi (zi ?_ zt) (zi (zi rfl zt) (zi zt zt))
  repeat' (first|exact rfl|exact zt|apply zi)
 clear hreal
 repeat (first|apply zq|apply zb|apply zk)
 apply zr
 refine zi rfl (zi (Int.natCast_nonneg _) (zi (by simp only [Int.toNat_natCast]; omega) ?_))
 repeat' (first|exact zt|refine zi ?_ ?_|fail)
 intro _
 repeat (first|apply zq|apply zb|apply zk)
 refine AWp.mono (Q := fun x s => x = .normal ∧ Sub ⟨[(0, .obj 1001 0)], [(1001, jgC f m o 14 f.Blocks.length), (14, .rows 118 1 f.Blocks.length (fun b => if b = 0 then [AV.sl ⟨854, []⟩ (22 + fr)] else [nilV])), (854, stR 855 (22 + fr) k), (855, stW (22 + fr) k (fun _ => nonS))]⟩ s) ?_ ?_
 ·refine AWp.quietP (.q 0 (.q 1 (.q 2 (.q 4 (.c 3 false (.c 5 false (.q 6 (.c 7 true .fin .no)) .no) (.c 5 false (.c 3 false (.q 6 (.c 7 true .fin .no)) .no) .no)))))) [0, 1, 2, 4, 6] [] mixed (by kernel_rfl) ?_
  repeat' (first|exact zt|refine zi ?_ ?_|refine CallX.shown (m_empty f m o hfr hO.frm hvl hk) [(11, 854), (90, 855)] [1001] rfl zt rfl rfl (zi (fun q hq => rfl) (zi (fun z hz q hq => rfl) zt)) ?_|fail)
  all_goals first|exact fun _ => zi (Int.le_refl _) (Int.ofNat_lt.2 hbl.1)|exact hbl.1|skip
  all_goals
   intro _
   refine zi rfl ?_
   refine zi ?_ (zi rfl (zi ?_ (zi (⟨_, _, rfl, rfl, ?_⟩) (zi (?_) (zi ⟨_, _, rfl, rfl, fun i h => rfl⟩ (zi (fun i h => zi ⟨i, h, rfl⟩ zt) (zi ⟨_, _, rfl, fun z h => ⟨h, _, _, rfl, rfl, fun i h => rfl⟩⟩ (zi (fun z h => zt) zt))))))))
   ·repeat' (first|exact rfl|exact zt|apply zi)
   ·repeat' (first|exact rfl|exact zt|apply zi)
   ·intro i hi
    by_cases e : i = 0
    ·subst e; rfl
    ·exact (if_neg e).trans (if_neg e).symm
   ·intro i hi
    by_cases e : i = 0
    ·subst e; show AV.refsPL _ (if 0 = 0 then _ else _); rw [if_pos rfl]; exact zi rfl zt
    ·show AV.refsPL _ (if i = 0 then _ else _); rw [if_neg e]; exact zi zt zt
 rintro _ _ ⟨rfl, hs⟩
 refine AWp.weaken hs ?_
 refine AWp.via inρ ⟨[(0, .obj 1001 0)], [(1001, jgC f m o 14 f.Blocks.length), (14, atR 860 f.Blocks.length (fun b => decide (b = 0)) (22 + fr)), (860, atS 861 f.Blocks.length (fun b => decide (b = 0)) (22 + fr) k), (861, atW f.Blocks.length (fun b => decide (b = 0)) (22 + fr) k (fun _ _ => nonS))]⟩ ?_ ?_
 ·refine ⟨?_, ?_, ?_, ?_⟩
  ·repeat' (first|exact rfl|exact zt|apply zi)
  ·refine zi (zi ⟨_, ⟨_, rfl, rfl, zt⟩, rfl⟩ ?_) (zi (zi ⟨_, ⟨_, rfl, rfl, zt⟩, Or.inl ⟨_, rfl, fun i hi => inρ_row⟩⟩ (fun q hq => atC_refs fun hv => ⟨q, hq, hv, rfl⟩)) (zi (fun z hz => zi ?_ (fun c hc => zi (atS_in hz hc) zt)) (zi (fun z hz => zi ?_ zt) zt)))
   ·repeat' (first|exact rfl|exact zt|apply zi)
   ·obtain ⟨b, h1, h2, rfl⟩ := hz
    have e : b = 0 := of_decide_eq_true h2
    subst e
    exact ⟨_, ⟨_, rfl, rfl, zt⟩, Or.inl ⟨_, rfl, fun c hc => rfl⟩⟩
   ·obtain ⟨b, c, h1, h2, h3, rfl⟩ := hz
    exact ⟨_, ⟨_, rfl, rfl, ⟨c, h3, rfl⟩⟩, Or.inl ⟨_, rfl, fun j hj => rfl⟩⟩
  ·intro a b c ha hb h1 h2
   have cl : ∀ a : Nm, domP [(1001, jgC f m o 14 f.Blocks.length), (14, atR 860 f.Blocks.length (fun b => decide (b = 0)) (22 + fr)), (860, atS 861 f.Blocks.length (fun b => decide (b = 0)) (22 + fr) k), (861, atW f.Blocks.length (fun b => decide (b = 0)) (22 + fr) k (fun _ _ => nonS))] a → (a = ⟨1001, []⟩ ∧ inρ a = some ⟨1001, []⟩) ∨ (a = ⟨14, []⟩ ∧ inρ a = some ⟨14, []⟩) ∨ (a = ⟨860, [0]⟩ ∧ inρ a = some ⟨854, []⟩) ∨ ∃ c, a = ⟨861, [0, c]⟩ ∧ inρ a = some ⟨855, [c]⟩ := by
    intro a ha
    obtain ⟨id, ix⟩ := a
    unfold domP at ha
    simp only [look_cons] at ha
    by_cases e1 : id = 1001
    ·subst e1
     have h : ix = [] := ha
     subst h; exact .inl ⟨rfl, rfl⟩
    ·rw [if_neg e1] at ha
     by_cases e2 : id = 14
     ·subst e2
      have h : ix = [] := ha
      subst h; exact .inr (.inl ⟨rfl, rfl⟩)
     ·rw [if_neg e2] at ha
      by_cases e3 : id = 860
      ·subst e3
       obtain ⟨b, _, h2, hb⟩ : stD _ _ ix := ha
       have e : b = 0 := of_decide_eq_true h2
       subst e hb; exact .inr (.inr (.inl ⟨rfl, rfl⟩))
      ·rw [if_neg e3] at ha
       by_cases e4 : id = 861
       ·subst e4
        obtain ⟨b, c, _, h2, _, hb⟩ : wdD _ _ _ ix := ha
        have e : b = 0 := of_decide_eq_true h2
        subst e hb; exact .inr (.inr (.inr ⟨c, rfl, rfl⟩))
       ·rw [if_neg e4] at ha; exact ha.elim
   rcases cl a ha with ⟨q1, q2⟩ | ⟨q1, q2⟩ | ⟨q1, q2⟩ | ⟨c1, q1, q2⟩ <;> rcases cl b hb with ⟨r1, r2⟩ | ⟨r1, r2⟩ | ⟨r1, r2⟩ | ⟨c2, r1, r2⟩
   all_goals
    rw [q2] at h1
    rw [r2] at h2
    have h3 := h1.trans h2.symm
    (try simp only [Option.some.injEq, Nm.mk.injEq, List.cons.injEq, and_true, true_and, Nat.reduceEqDiff, false_and, and_false, reduceCtorEq] at h3) <;> (subst q1 r1) <;> (try (first|rfl|(subst h3; rfl)))
  ·intro a ha h
   obtain ⟨id, ix⟩ := a
   unfold inρ
   have g1 : Nat.beq id 860 = false := by
    cases e : Nat.beq id 860 with
    | false => rfl
    | true => have := Nat.eq_of_beq_eq_true e; have h : 1000 ≤ id := h; omega
   have g2 : Nat.beq id 861 = false := by
    cases e : Nat.beq id 861 with
    | false => rfl
    | true => have := Nat.eq_of_beq_eq_true e; have h : 1000 ≤ id := h; omega
   simp only [g1, g2, cond_false]
 repeat (first|apply zq|apply zb|apply zk)
 apply zr;intro _
 refine AWp.reread 2 (.so ⟨24, []⟩ 1 0 1) rfl (fun F τ w v h => rep_so0 h) ?_
 repeat (first|apply zq|apply zb|apply zk)
 refine AWp.loop (fun s : (Nat → Bool) × (Nat → Knw) × List Nat × Nat => ⟨[(0, .obj 1001 0), (2, .so ⟨24, []⟩ 1 s.2.2.2 (s.2.2.1.length - s.2.2.2))], [(1001, jgC f m o 14 f.Blocks.length), (14, atR 860 f.Blocks.length (s.1) (22 + fr)), (860, atS 861 f.Blocks.length (s.1) (22 + fr) k), (861, atW f.Blocks.length (s.1) (22 + fr) k (s.2.1)), (24, rowN (s.2.2.1))]⟩) (fun s => s.2.2.2 ≤ s.2.2.1.length ∧ 0 < s.2.2.1.length ∧ JO f o (22 + fr) s.1 s.2.1 (s.2.2.1.drop s.2.2.2) ∧ s.2.2.1.length + mu0 f.Blocks.length (22 + fr) f.Values.length s.1 s.2.1 ≤ (f.Blocks.length * ((22 + fr) * f.Values.length) + f.Blocks.length + 1)) (fun s => 2 * mu0 f.Blocks.length (22 + fr) f.Values.length s.1 s.2.1 + (s.2.2.1.length - s.2.2.2)) (fun b => decide (b = 0), fun _ _ => nonS, [0], 0) ⟨Nat.zero_le _, Nat.zero_lt_one, JO.start hO, by have := mu_max (n := f.Blocks.length) (N := 22 + fr) (V := f.Values.length) (vis := fun b => decide (b = 0)) (P := fun _ _ => nonS); show 1 + mu0 f.Blocks.length (22 + fr) f.Values.length (fun b => decide (b = 0)) (fun _ _ => nonS) ≤ _; omega⟩ ?_ ?_
 ·refine zi ?_ (zi rfl (zi ?_ (zi ⟨_, _, rfl, rfl, fun i h => rfl⟩ (zi (fun q hq => atC_refs fun hv => ⟨q, hq, hv, rfl⟩) (zi ⟨_, _, rfl, fun z h => ⟨h, _, _, rfl, rfl, fun i h => rfl⟩⟩ (zi (fun z hz c hc => zi (atS_in hz hc) zt) (zi ⟨_, _, rfl, fun z h => ⟨h, _, _, rfl, rfl, fun i h => rfl⟩⟩ (zi (fun z h => zt) (zi (⟨_, _, rfl, rfl, fun i hi => by have hi : i < 1 := hi; have e : i = 0 := (by omega); subst e; rfl⟩) (zi zt zt))))))))))
  all_goals repeat' (first|exact rfl|exact zt|apply zi)
 rintro ⟨vis, P, L, off⟩ ⟨hoL0, hL00, hJ0, hmu0⟩
 simp only at hoL0 hL00 hJ0 hmu0
 repeat (first|apply zq|apply zb|apply zk)
 apply zr;intro _
 repeat (first|apply zq|apply zb|apply zk)
 refine AWp.cond (zi (fun h1 => ?_) (fun h1 => ?_))
 ·have hlt : off < L.length := by
   have h1 : decide (((L.length - off : Nat) : Int) > 0) = true := h1
   have := of_decide_eq_true h1; omega
  rw [drop_cons hlt] at hJ0
  have hbv := hJ0.i.td (L.getD off 0) (List.mem_cons_self ..)
  have hb := hbv.1
  have hv := hbv.2
  have hJ1 := hJ0.pop
  have hem : (f.Blocks.getD (L.getD off 0) default).Edges.length ≤ maxLen := by have := hz5.edges _ hb; unfold maxLen; omega
  repeat (first|apply zq|apply zb|apply zk)
  apply zr
  repeat' (first|exact zt|refine zi ?_ ?_|fail)
  all_goals first|exact fun _ => (zi (Int.le_refl _) (by omega : (0 : Int) < ((L.length - off : Nat) : Int)))|exact fun _ => (show off + 0 < L.length by omega)|skip
  intro _
  repeat (first|apply zq|apply zb|apply zk)
  apply zr
  repeat' (first|exact zt|refine zi ?_ ?_|fail)
  all_goals first|exact fun _ => (zi (by decide : (0 : Int) ≤ 1) (zi (by omega : (1 : Int) ≤ ((L.length - off : Nat) : Int)) (Int.le_refl _)))|skip
  intro _
  refine AWp.weaken (s' := ⟨[(0, .obj 1001 0), (2, .so ⟨24, []⟩ 1 (off + 1) (L.length - (off + 1))), (3, .i64 (L.getD off 0))], [(1001, jgC f m o 14 f.Blocks.length), (14, atR 860 f.Blocks.length (vis) (22 + fr)), (860, atS 861 f.Blocks.length (vis) (22 + fr) k), (861, atW f.Blocks.length (vis) (22 + fr) k (P)), (24, rowN (L))]⟩) ?_ ?_
  ·refine zi ?_ (zi rfl (zi ?_ (zi ⟨_, _, rfl, rfl, fun i h => rfl⟩ (zi (fun q hq => atC_refs fun hv => ⟨q, hq, hv, rfl⟩) (zi ⟨_, _, rfl, fun z h => ⟨h, _, _, rfl, rfl, fun i h => rfl⟩⟩ (zi (fun z hz c hc => zi (atS_in hz hc) zt) (zi ⟨_, _, rfl, fun z h => ⟨h, _, _, rfl, rfl, fun i h => rfl⟩⟩ (zi (fun z h => zt) (zi ⟨_, _, rfl, rfl, fun i h => rfl⟩ (zi zt zt))))))))))
   all_goals repeat' (first|exact rfl|exact zt|exact congrArg (fun z => some (AV.so ⟨24, []⟩ 1 (off + 1) z)) (by show (((L.length - off : Nat) : Int) - 1).toNat = L.length - (off + 1); omega)|refine zi ?_ ?_)
  repeat (first|apply zq|apply zb|apply zk)
  apply zr
  repeat' (first|exact zt|refine zi ?_ ?_|refine CallX.lend (m_through f hC m o hok (N := 22 + fr) hfr rfl rfl hk vis P hO (L.getD off 0) hb hv) [(1001, 1001), (1002, 14), (1003, 860), (1004, 861), (7, 850), (8, 851)] rfl (zi rfl (zi (atR_sig rfl) (zi rfl (zi rfl zt)))) rfl ?_|fail)
  intro _
  refine AWp.weaken (s' := ⟨[(0, .obj 1001 0), (2, .so ⟨24, []⟩ 1 (off + 1) (L.length - (off + 1))), (3, .i64 (L.getD off 0)), (4, .sl 850 (22 + fr))], [(1001, jgC f m o 14 f.Blocks.length), (14, atR 860 f.Blocks.length (vis) (22 + fr)), (860, atS 861 f.Blocks.length (vis) (22 + fr) k), (861, atW f.Blocks.length (vis) (22 + fr) k (P)), (850, stR 851 (22 + fr) k), (851, stW (22 + fr) k (thK f o (L.getD off 0) (P (L.getD off 0)))), (24, rowN (L))]⟩) ?_ ?_
  ·refine zi ?_ (zi rfl (zi ?_ (zi (⟨_, _, rfl, rfl, fun i hi => (atC_sig (by rfl)).symm⟩) (zi (fun q hq => atC_refs fun hv => ⟨q, hq, hv, rfl⟩) (zi ⟨_, _, rfl, fun z h => ⟨h, _, _, rfl, rfl, fun i h => rfl⟩⟩ (zi (fun z hz c hc => zi (atS_in hz hc) zt) (zi ⟨_, _, rfl, fun z h => ⟨h, _, _, rfl, rfl, fun i h => rfl⟩⟩ (zi (fun z h => zt) (zi ⟨_, _, rfl, rfl, fun i h => rfl⟩ (zi (fun i h => zi ⟨i, h, rfl⟩ zt) (zi ⟨_, _, rfl, fun z h => ⟨h, _, _, rfl, rfl, fun i h => rfl⟩⟩ (zi (fun z h => zt) (zi ⟨_, _, rfl, rfl, fun i h => rfl⟩ (zi zt zt))))))))))))))
   all_goals repeat' (first|exact rfl|exact zt|apply zi)
  repeat (first|apply zq|apply zb|apply zk)
  apply zr
  refine zi (fun _ => nn (hb)) ?_
  intro _
  repeat (first|apply zq|apply zb|apply zk)
  refine AWp.loop (fun s : ((Nat → Bool) × (Nat → Knw) × List Nat × Nat) × Nat => ⟨[(0, .obj 1001 0), (2, .so ⟨24, []⟩ 1 s.1.2.2.2 (s.1.2.2.1.length - s.1.2.2.2)), (4, .sl 850 (22 + fr)), (44, roL 2 Edg.cells (f.Blocks.getD (L.getD off 0) default).Edges), (45, .i64 (f.Blocks.getD (L.getD off 0) default).Edges.length), (46, .i64 s.2)], [(1001, jgC f m o 14 f.Blocks.length), (14, atR 860 f.Blocks.length (s.1.1) (22 + fr)), (860, atS 861 f.Blocks.length (s.1.1) (22 + fr) k), (861, atW f.Blocks.length (s.1.1) (22 + fr) k (s.1.2.1)), (850, stR 851 (22 + fr) k), (851, stW (22 + fr) k (thK f o (L.getD off 0) (P (L.getD off 0)))), (24, rowN (s.1.2.2.1))]⟩) (fun s => s.1.2.2.2 ≤ s.1.2.2.1.length ∧ 0 < s.1.2.2.1.length ∧ JN f o (22 + fr) (L.getD off 0) (P (L.getD off 0)) s.2 s.1.1 s.1.2.1 (s.1.2.2.1.drop s.1.2.2.2) ∧ s.2 ≤ (f.Blocks.getD (L.getD off 0) default).Edges.length ∧ s.1.2.2.1.length + mu0 f.Blocks.length (22 + fr) f.Values.length s.1.1 s.1.2.1 ≤ (f.Blocks.length * ((22 + fr) * f.Values.length) + f.Blocks.length + 1) ∧ 2 * mu0 f.Blocks.length (22 + fr) f.Values.length s.1.1 s.1.2.1 + (s.1.2.2.1.length - s.1.2.2.2) < 2 * mu0 f.Blocks.length (22 + fr) f.Values.length vis P + (L.length - off)) (fun s => (f.Blocks.getD (L.getD off 0) default).Edges.length - s.2) ((vis, P, L, off + 1), 0) ⟨hlt, hL00, hJ1, Nat.zero_le _, hmu0, by show 2 * mu0 f.Blocks.length (22 + fr) f.Values.length vis P + (L.length - (off + 1)) < _; omega⟩ ?_ ?_
  ·refine zi ?_ (zi rfl (zi ?_ (zi ⟨_, _, rfl, rfl, fun i h => rfl⟩ (zi (fun q hq => atC_refs fun hv => ⟨q, hq, hv, rfl⟩) (zi ⟨_, _, rfl, fun z h => ⟨h, _, _, rfl, rfl, fun i h => rfl⟩⟩ (zi (fun z hz c hc => zi (atS_in hz hc) zt) (zi ⟨_, _, rfl, fun z h => ⟨h, _, _, rfl, rfl, fun i h => rfl⟩⟩ (zi (fun z h => zt) (zi ⟨_, _, rfl, rfl, fun i h => rfl⟩ (zi (fun i h => zi ⟨i, h, rfl⟩ zt) (zi ⟨_, _, rfl, fun z h => ⟨h, _, _, rfl, rfl, fun i h => rfl⟩⟩ (zi (fun z h => zt) (zi ⟨_, _, rfl, rfl, fun i h => rfl⟩ (zi zt zt))))))))))))))
   all_goals repeat' (first|exact rfl|exact zt|apply zi)
  rintro ⟨⟨vis2, P2, L2, off2⟩, q⟩ ⟨hoL, hL0, hJ, hq, hmuA, hmuB⟩
  simp only at hoL hL0 hJ hq hmuA hmuB
  have hLm : L2.length ≤ maxLen := by unfold maxLen; omega
  repeat (first|apply zq|apply zb|apply zk)
  apply zr;intro _
  repeat (first|apply zq|apply zb|apply zk)
  refine AWp.cond (zi (fun h2 => ?_) (fun h2 => ?_))
  ·have hq' : q < (f.Blocks.getD (L.getD off 0) default).Edges.length := Int.ofNat_lt.1 (of_decide_eq_true h2)
   have htn := (edT_lt hC hb hq').2
   have hz : (((edT f (L.getD off 0) q) : Nat) : Int) = (edE f (L.getD off 0) q).Block := by
    have := hC.e.edge _ q hb hq'
    show ((((f.Blocks.getD (L.getD off 0) default).Edges.getD q default).Block.toNat : Nat) : Int) = ((f.Blocks.getD (L.getD off 0) default).Edges.getD q default).Block
    omega
   have hl1 : (L2 ++ [(edT f (L.getD off 0) q)]).length = L2.length + 1 := by simp
   have hl2 : (L2.drop off2 ++ [(edT f (L.getD off 0) q)]).length = L2.length - off2 + 1 := by simp
   have hd1 : (L2 ++ [(edT f (L.getD off 0) q)]).drop off2 = L2.drop off2 ++ [(edT f (L.getD off 0) q)] := List.drop_append_of_le_length hoL
   repeat (first|apply zq|apply zb|apply zk)
   apply zr
   refine zi (fun _ => nn (hq')) ?_
   intro _
   refine AWp.freezeObj 6 rfl rfl ?_
   refine AWp.weaken (s' := ⟨[(0, .obj 1001 0), (2, .so ⟨24, []⟩ 1 off2 (L2.length - off2)), (4, .sl 850 (22 + fr)), (6, .ptr (edE f (L.getD off 0) q).cells), (44, roL 2 Edg.cells (f.Blocks.getD (L.getD off 0) default).Edges), (45, .i64 (f.Blocks.getD (L.getD off 0) default).Edges.length), (46, .i64 q)], [(1001, jgC f m o 14 f.Blocks.length), (14, atR 860 f.Blocks.length (vis2) (22 + fr)), (860, atS 861 f.Blocks.length (vis2) (22 + fr) k), (861, atW f.Blocks.length (vis2) (22 + fr) k (P2)), (850, stR 851 (22 + fr) k), (851, stW (22 + fr) k (thK f o (L.getD off 0) (P (L.getD off 0)))), (24, rowN (L2))]⟩) ?_ ?_
   ·refine zi ?_ (zi rfl (zi ?_ (zi (⟨_, _, rfl, rfl, fun i hi => (atC_frz (by rfl)).symm⟩) (zi (fun q hq => atC_refs fun hv => ⟨q, hq, hv, rfl⟩) (zi ⟨_, _, rfl, fun z h => ⟨h, _, _, rfl, rfl, fun i h => rfl⟩⟩ (zi (fun z hz c hc => zi (atS_in hz hc) zt) (zi ⟨_, _, rfl, fun z h => ⟨h, _, _, rfl, rfl, fun i h => rfl⟩⟩ (zi (fun z h => zt) (zi ⟨_, _, rfl, rfl, fun i h => rfl⟩ (zi (fun i h => zi ⟨i, h, rfl⟩ zt) (zi ⟨_, _, rfl, fun z h => ⟨h, _, _, rfl, rfl, fun i h => rfl⟩⟩ (zi (fun z h => zt) (zi ⟨_, _, rfl, rfl, fun i h => rfl⟩ (zi zt zt))))))))))))))
    all_goals repeat' (first|exact rfl|exact zt|apply zi)
   by_cases hv2 : vis2 (edT f (L.getD off 0) q) = true
   ·repeat (first|apply zq|apply zb|apply zk)
    refine AWp.quietP (.q 0 (.q 1 (.q 2 (.q 3 (.q 4 (.q 5 (.c 6 false (.c 7 true (.q 8 (.q 9 (.q 10 (.q 11 (.c 12 true (.q 13 (.q 14 .fin)) .no))))) .no) .no))))))) [0, 1, 2, 3, 4, 5, 8, 9, 10, 11, 13, 14] [] mixed (by kernel_rfl) ?_
    repeat' (first|exact zt|refine zi ?_ ?_|refine CallX.shown (m_along f m o hfr hvl hk (thK f o (L.getD off 0) (P (L.getD off 0))) (edE f (L.getD off 0) q) (by have := hC.e.edge _ q hb hq'; exact ⟨by show 0 ≤ ((f.Blocks.getD (L.getD off 0) default).Edges.getD q default).Block; omega, this.2⟩) (hz5.params _ htn) (edgP_len hO.chk0 hb hq') (param_lt hC htn) (fun j hj => idx_ok (hC.argv _ q j hb hq' hj))) [(1001, 850), (1002, 851), (7, 852), (8, 853)] [1001] rfl (zi rfl (zi rfl zt)) rfl rfl (zi (fun q hq => rfl) (zi (fun z hz q hq => rfl) (zi (fun q hq => rfl) (zi (fun z hz q hq => rfl) zt)))) ?_|refine CallX.lend (m_meetOldZ f m o (N := 22 + fr) (k := k) (by omega) (by omega) hkk vis2 P2 (alK f (edE f (L.getD off 0) q) (thK f o (L.getD off 0) (P (L.getD off 0)))) (edT f (L.getD off 0) q) hz htn hv2) [(1001, 1001), (1002, 14), (1003, 860), (1004, 861), (1005, 852), (1006, 853)] rfl (zi rfl (zi (congrArg (fun g => some (HO.rows 118 1 f.Blocks.length g)) (funext fun i => (atC_keep fun _ => rfl).trans (atC_sig (by rfl)).symm)) (zi rfl (zi rfl (zi rfl (zi rfl zt)))))) rfl ?_|refine CallK.intro (fun _ => c_ContD L2 off2 (edT f (L.getD off 0) q) hz hLm) ?_|fail)
    all_goals first|exact fun h => h|exact gT|exact gF|skip
    intro _
    refine AWp.weaken (s' := ⟨[(0, .obj 1001 0), (2, .so ⟨24, []⟩ 1 off2 (L2.length - off2)), (4, .sl 850 (22 + fr)), (6, .ptr (edE f (L.getD off 0) q).cells), (44, roL 2 Edg.cells (f.Blocks.getD (L.getD off 0) default).Edges), (45, .i64 (f.Blocks.getD (L.getD off 0) default).Edges.length), (46, .i64 q), (64, .bool (bif lsC (P2 (edT f (L.getD off 0) q)) (alK f (edE f (L.getD off 0) q) (thK f o (L.getD off 0) (P (L.getD off 0)))) k (22 + fr) then !decide ((edT f (L.getD off 0) q) ∈ L2.drop off2) else false))], [(1001, jgC f m o 14 f.Blocks.length), (14, atR 860 f.Blocks.length (vis2) (22 + fr)), (860, atS 861 f.Blocks.length (vis2) (22 + fr) k), (861, atW f.Blocks.length (vis2) (22 + fr) k (updP P2 (edT f (L.getD off 0) q) (metK (P2 (edT f (L.getD off 0) q)) (alK f (edE f (L.getD off 0) q) (thK f o (L.getD off 0) (P (L.getD off 0))))))), (850, stR 851 (22 + fr) k), (851, stW (22 + fr) k (thK f o (L.getD off 0) (P (L.getD off 0)))), (24, rowN (L2))]⟩) ?_ ?_
    ·refine zi ?_ (zi rfl (zi ?_ (zi (⟨_, _, rfl, rfl, fun i hi => (atC_sig (by rfl)).symm⟩) (zi (fun q hq => atC_refs fun hv => ⟨q, hq, hv, rfl⟩) (zi ⟨_, _, rfl, fun z h => ⟨h, _, _, rfl, rfl, fun i h => rfl⟩⟩ (zi (fun z hz c hc => zi (atS_in hz hc) zt) (zi ⟨_, _, rfl, fun z h => ⟨h, _, _, rfl, rfl, fun i h => rfl⟩⟩ (zi (fun z h => zt) (zi ⟨_, _, rfl, rfl, fun i h => rfl⟩ (zi (fun i h => zi ⟨i, h, rfl⟩ zt) (zi ⟨_, _, rfl, fun z h => ⟨h, _, _, rfl, rfl, fun i h => rfl⟩⟩ (zi (fun z h => zt) (zi ⟨_, _, rfl, rfl, fun i h => rfl⟩ (zi zt zt))))))))))))))
     all_goals repeat' (first|exact rfl|exact zt|apply zi)
    repeat (first|apply zq|apply zb|apply zk)
    refine AWp.cond (zi (fun h3 => ?_) (fun h3 => ?_))
    ·have hl3 : lsC (P2 (edT f (L.getD off 0) q)) (alK f (edE f (L.getD off 0) q) (thK f o (L.getD off 0) (P (L.getD off 0)))) k (22 + fr) = true ∧ (edT f (L.getD off 0) q) ∉ L2.drop off2 := by
      have h3 : (bif lsC (P2 (edT f (L.getD off 0) q)) (alK f (edE f (L.getD off 0) q) (thK f o (L.getD off 0) (P (L.getD off 0)))) k (22 + fr) then !decide ((edT f (L.getD off 0) q) ∈ L2.drop off2) else false) = true := h3
      cases g : lsC (P2 (edT f (L.getD off 0) q)) (alK f (edE f (L.getD off 0) q) (thK f o (L.getD off 0) (P (L.getD off 0)))) k (22 + fr) with
      | false => rw [g] at h3; cases h3
      | true => rw [g] at h3; exact ⟨rfl, by simpa using h3⟩
     have hJ2 := hJ.old hO hb hq' hv2 (.inr ⟨hl3.2, rfl⟩) fun hn => absurd (List.mem_append_right _ (List.mem_singleton.2 rfl)) hn
     obtain ⟨c3, v3, g1, g2, g3, g4⟩ := lsC_iff.1 hl3.1
     have hmu := mu_lt (N := 22 + fr) (V := f.Values.length) (n := f.Blocks.length) (L := alK f (edE f (L.getD off 0) q) (thK f o (L.getD off 0) (P (L.getD off 0)))) htn hv2 g1 (hJ.i.sp_lt htn hv2 g3) g3 g4
     repeat (first|apply zq|apply zb|apply zk)
     apply zr
     repeat' (first|exact zt|refine zi ?_ ?_|fail)
     all_goals first|exact rfl|exact Nat.le_refl _|exact (by decide : 0 < 1)|(intro i hi; have e : i = 0 := (by omega); subst e; exact rfl)|exact hL0|exact (by omega : off2 + (L2.length - off2) = L2.length)|(show (L2.length + 1) * 8 ≤ _; omega)|skip
     ·intro _
      refine AWp.rename 69 24 rfl rfl ?_
      repeat (first|apply zq|apply zb|apply zk)
      apply zr;intro _
      refine round_end ((vis2, updP P2 (edT f (L.getD off 0) q) (metK (P2 (edT f (L.getD off 0) q)) (alK f (edE f (L.getD off 0) q) (thK f o (L.getD off 0) (P (L.getD off 0))))), L2 ++ [(edT f (L.getD off 0) q)], off2), q + 1) ⟨by show off2 ≤ (L2 ++ [(edT f (L.getD off 0) q)]).length; rw [hl1]; omega, by show 0 < (L2 ++ [(edT f (L.getD off 0) q)]).length; rw [hl1]; omega, by show JN _ _ _ _ _ (q + 1) _ _ ((L2 ++ [(edT f (L.getD off 0) q)]).drop off2); rw [hd1]; exact hJ2, hq', by show (L2 ++ [(edT f (L.getD off 0) q)]).length + mu0 f.Blocks.length (22 + fr) f.Values.length (vis2) (updP P2 (edT f (L.getD off 0) q) (metK (P2 (edT f (L.getD off 0) q)) (alK f (edE f (L.getD off 0) q) (thK f o (L.getD off 0) (P (L.getD off 0)))))) ≤ _; rw [hl1]; omega, by show 2 * mu0 f.Blocks.length (22 + fr) f.Values.length (vis2) (updP P2 (edT f (L.getD off 0) q) (metK (P2 (edT f (L.getD off 0) q)) (alK f (edE f (L.getD off 0) q) (thK f o (L.getD off 0) (P (L.getD off 0)))))) + ((L2 ++ [(edT f (L.getD off 0) q)]).length - off2) < _; rw [hl1]; omega⟩ ?_ (by show _ - (q + 1) < _ - q; omega)
      refine zi ?_ (zi rfl (zi ?_ (zi (⟨_, _, rfl, rfl, fun i hi => ((congrArg (AV.sigL _) (atC_keep (fun _ => by rfl))).trans (atC_sig (by rfl))).symm⟩) (zi (fun q hq => atC_refs fun hv => ⟨q, hq, hv, rfl⟩) (zi ⟨_, _, rfl, fun z h => ⟨h, _, _, rfl, rfl, fun i h => rfl⟩⟩ (zi (fun z hz c hc => zi (atS_in hz hc) zt) (zi ⟨_, _, rfl, fun z h => ⟨h, _, _, rfl, rfl, fun i h => rfl⟩⟩ (zi (fun z h => zt) (zi ⟨_, _, rfl, rfl, fun i h => rfl⟩ (zi (fun i h => zi ⟨i, h, rfl⟩ zt) (zi ⟨_, _, rfl, fun z h => ⟨h, _, _, rfl, rfl, fun i h => rfl⟩⟩ (zi (fun z h => zt) (zi (⟨_, _, rfl, hl1.symm, fun i hi => snocZ hz hi⟩) (zi zt zt))))))))))))))
      all_goals repeat' (first|exact rfl|exact zt|exact congrArg (fun z => some (AV.i64 z)) (wrap_succ hq' hem)|exact congrArg (fun z => some (AV.so ⟨24, []⟩ 1 off2 z)) (by show L2.length - off2 + 1 = (L2 ++ [(edT f (L.getD off 0) q)]).length - off2; rw [hl1]; omega)|refine zi ?_ ?_)
     ·intro _
      refine AWp.reread 2 (.so ⟨69, []⟩ 1 0 (L2.length - off2 + 1)) rfl (fun F τ w v h => rep_so0 h) ?_
      refine AWp.rename 69 24 rfl rfl ?_
      repeat (first|apply zq|apply zb|apply zk)
      apply zr;intro _
      refine round_end ((vis2, updP P2 (edT f (L.getD off 0) q) (metK (P2 (edT f (L.getD off 0) q)) (alK f (edE f (L.getD off 0) q) (thK f o (L.getD off 0) (P (L.getD off 0))))), L2.drop off2 ++ [(edT f (L.getD off 0) q)], 0), q + 1) ⟨Nat.zero_le _, by show 0 < (L2.drop off2 ++ [(edT f (L.getD off 0) q)]).length; rw [hl2]; omega, hJ2, hq', by show (L2.drop off2 ++ [(edT f (L.getD off 0) q)]).length + mu0 f.Blocks.length (22 + fr) f.Values.length (vis2) (updP P2 (edT f (L.getD off 0) q) (metK (P2 (edT f (L.getD off 0) q)) (alK f (edE f (L.getD off 0) q) (thK f o (L.getD off 0) (P (L.getD off 0)))))) ≤ _; rw [hl2]; omega, by show 2 * mu0 f.Blocks.length (22 + fr) f.Values.length (vis2) (updP P2 (edT f (L.getD off 0) q) (metK (P2 (edT f (L.getD off 0) q)) (alK f (edE f (L.getD off 0) q) (thK f o (L.getD off 0) (P (L.getD off 0)))))) + ((L2.drop off2 ++ [(edT f (L.getD off 0) q)]).length - 0) < _; rw [hl2]; omega⟩ ?_ (by show _ - (q + 1) < _ - q; omega)
      refine zi ?_ (zi rfl (zi ?_ (zi (⟨_, _, rfl, rfl, fun i hi => ((congrArg (AV.sigL _) (atC_keep (fun _ => by rfl))).trans (atC_sig (by rfl))).symm⟩) (zi (fun q hq => atC_refs fun hv => ⟨q, hq, hv, rfl⟩) (zi ⟨_, _, rfl, fun z h => ⟨h, _, _, rfl, rfl, fun i h => rfl⟩⟩ (zi (fun z hz c hc => zi (atS_in hz hc) zt) (zi ⟨_, _, rfl, fun z h => ⟨h, _, _, rfl, rfl, fun i h => rfl⟩⟩ (zi (fun z h => zt) (zi ⟨_, _, rfl, rfl, fun i h => rfl⟩ (zi (fun i h => zi ⟨i, h, rfl⟩ zt) (zi ⟨_, _, rfl, fun z h => ⟨h, _, _, rfl, rfl, fun i h => rfl⟩⟩ (zi (fun z h => zt) (zi (⟨_, _, rfl, hl2.symm, fun i hi => snocD hz hi⟩) (zi zt zt))))))))))))))
      all_goals repeat' (first|exact rfl|exact zt|exact congrArg (fun z => some (AV.i64 z)) (wrap_succ hq' hem)|exact congrArg (fun z => some (AV.so ⟨24, []⟩ 1 0 z)) (by show L2.length - off2 + 1 = (L2.drop off2 ++ [(edT f (L.getD off 0) q)]).length - 0; rw [hl2]; omega)|refine zi ?_ ?_)
    ·have hJ2 := hJ.old hO hb hq' hv2 (.inl rfl) (fun hn => lsC_no hvk (by
      have h3 : (bif lsC (P2 (edT f (L.getD off 0) q)) (alK f (edE f (L.getD off 0) q) (thK f o (L.getD off 0) (P (L.getD off 0)))) k (22 + fr) then !decide ((edT f (L.getD off 0) q) ∈ L2.drop off2) else false) = false := h3
      cases g : lsC (P2 (edT f (L.getD off 0) q)) (alK f (edE f (L.getD off 0) q) (thK f o (L.getD off 0) (P (L.getD off 0)))) k (22 + fr) with
      | false => rfl
      | true => rw [g] at h3; exact absurd (by simpa using h3) hn))
     have hmu := mu_le (N := 22 + fr) (V := f.Values.length) (n := f.Blocks.length) (vis := vis2) (P := P2) (L := alK f (edE f (L.getD off 0) q) (thK f o (L.getD off 0) (P (L.getD off 0)))) htn
     repeat (first|apply zq|apply zb|apply zk)
     apply zr;intro _
     refine round_end ((vis2, updP P2 (edT f (L.getD off 0) q) (metK (P2 (edT f (L.getD off 0) q)) (alK f (edE f (L.getD off 0) q) (thK f o (L.getD off 0) (P (L.getD off 0))))), L2, off2), q + 1) ⟨hoL, hL0, hJ2, hq', by show L2.length + mu0 f.Blocks.length (22 + fr) f.Values.length (vis2) (updP P2 (edT f (L.getD off 0) q) (metK (P2 (edT f (L.getD off 0) q)) (alK f (edE f (L.getD off 0) q) (thK f o (L.getD off 0) (P (L.getD off 0)))))) ≤ _; omega, by show 2 * mu0 f.Blocks.length (22 + fr) f.Values.length (vis2) (updP P2 (edT f (L.getD off 0) q) (metK (P2 (edT f (L.getD off 0) q)) (alK f (edE f (L.getD off 0) q) (thK f o (L.getD off 0) (P (L.getD off 0)))))) + (L2.length - off2) < _; omega⟩ ?_ (by show _ - (q + 1) < _ - q; omega)
     refine zi ?_ (zi rfl (zi ?_ (zi ⟨_, _, rfl, rfl, fun i h => rfl⟩ (zi (fun q hq => atC_refs fun hv => ⟨q, hq, hv, rfl⟩) (zi ⟨_, _, rfl, fun z h => ⟨h, _, _, rfl, rfl, fun i h => rfl⟩⟩ (zi (fun z hz c hc => zi (atS_in hz hc) zt) (zi ⟨_, _, rfl, fun z h => ⟨h, _, _, rfl, rfl, fun i h => rfl⟩⟩ (zi (fun z h => zt) (zi ⟨_, _, rfl, rfl, fun i h => rfl⟩ (zi (fun i h => zi ⟨i, h, rfl⟩ zt) (zi ⟨_, _, rfl, fun z h => ⟨h, _, _, rfl, rfl, fun i h => rfl⟩⟩ (zi (fun z h => zt) (zi ⟨_, _, rfl, rfl, fun i h => rfl⟩ (zi zt zt))))))))))))))
     all_goals repeat' (first|exact rfl|exact zt|exact congrArg (fun z => some (AV.i64 z)) (wrap_succ hq' hem)|refine zi ?_ ?_)
   ·repeat (first|apply zq|apply zb|apply zk)
    refine AWp.quietP (.q 0 (.q 1 (.q 2 (.q 3 (.q 4 (.q 5 (.c 6 false (.c 7 true (.q 8 (.q 9 (.q 10 (.q 11 (.c 12 true (.q 13 (.q 14 .fin)) .no))))) .no) .no))))))) [0, 1, 2, 3, 4, 5, 8, 9, 10, 11, 13, 14] [] mixed (by kernel_rfl) ?_
    repeat' (first|exact zt|refine zi ?_ ?_|refine CallX.shown (m_along f m o hfr hvl hk (thK f o (L.getD off 0) (P (L.getD off 0))) (edE f (L.getD off 0) q) (by have := hC.e.edge _ q hb hq'; exact ⟨by show 0 ≤ ((f.Blocks.getD (L.getD off 0) default).Edges.getD q default).Block; omega, this.2⟩) (hz5.params _ htn) (edgP_len hO.chk0 hb hq') (param_lt hC htn) (fun j hj => idx_ok (hC.argv _ q j hb hq' hj))) [(1001, 850), (1002, 851), (7, 852), (8, 853)] [1001] rfl (zi rfl (zi rfl zt)) rfl rfl (zi (fun q hq => rfl) (zi (fun z hz q hq => rfl) (zi (fun q hq => rfl) (zi (fun z hz q hq => rfl) zt)))) ?_|refine CallX.lend (m_meetNewZ f m o (N := 22 + fr) (k := k) vis2 P2 (alK f (edE f (L.getD off 0) q) (thK f o (L.getD off 0) (P (L.getD off 0)))) (edT f (L.getD off 0) q) hz htn hv2) [(1001, 1001), (1002, 14), (1003, 860), (1004, 861), (1005, 852), (1006, 853), (870, 862), (871, 863)] rfl (zi rfl (zi (congrArg (fun g => some (HO.rows 118 1 f.Blocks.length g)) (funext fun i => (atC_keep fun _ => rfl).trans (atC_sig (by rfl)).symm)) (zi rfl (zi rfl (zi rfl (zi rfl zt)))))) rfl ?_|refine CallK.intro (fun _ => c_ContD L2 off2 (edT f (L.getD off 0) q) hz hLm) ?_|fail)
    all_goals first|exact fun h => h|exact gT|exact gF|skip
    intro _
    refine AWp.weaken (s' := ⟨[(0, .obj 1001 0), (2, .so ⟨24, []⟩ 1 off2 (L2.length - off2)), (4, .sl 850 (22 + fr)), (6, .ptr (edE f (L.getD off 0) q).cells), (44, roL 2 Edg.cells (f.Blocks.getD (L.getD off 0) default).Edges), (45, .i64 (f.Blocks.getD (L.getD off 0) default).Edges.length), (46, .i64 q), (64, .bool (!decide ((edT f (L.getD off 0) q) ∈ L2.drop off2)))], [(1001, jgC f m o 14 f.Blocks.length), (14, atR 862 f.Blocks.length (visT vis2 (edT f (L.getD off 0) q)) (22 + fr)), (862, atS 863 f.Blocks.length (visT vis2 (edT f (L.getD off 0) q)) (22 + fr) k), (863, atW f.Blocks.length (visT vis2 (edT f (L.getD off 0) q)) (22 + fr) k (updP P2 (edT f (L.getD off 0) q) (alK f (edE f (L.getD off 0) q) (thK f o (L.getD off 0) (P (L.getD off 0)))))), (850, stR 851 (22 + fr) k), (851, stW (22 + fr) k (thK f o (L.getD off 0) (P (L.getD off 0)))), (24, rowN (L2))]⟩) ?_ ?_
    ·refine zi ?_ (zi rfl (zi ?_ (zi (⟨_, _, rfl, rfl, fun i hi => (atC_sig (by rfl)).symm⟩) (zi (fun q hq => atC_refs fun hv => ⟨q, hq, hv, rfl⟩) (zi ⟨_, _, rfl, fun z h => ⟨h, _, _, rfl, rfl, fun i h => rfl⟩⟩ (zi (fun z hz c hc => zi (atS_in hz hc) zt) (zi ⟨_, _, rfl, fun z h => ⟨h, _, _, rfl, rfl, fun i h => rfl⟩⟩ (zi (fun z h => zt) (zi ⟨_, _, rfl, rfl, fun i h => rfl⟩ (zi (fun i h => zi ⟨i, h, rfl⟩ zt) (zi ⟨_, _, rfl, fun z h => ⟨h, _, _, rfl, rfl, fun i h => rfl⟩⟩ (zi (fun z h => zt) (zi ⟨_, _, rfl, rfl, fun i h => rfl⟩ (zi zt zt))))))))))))))
     all_goals repeat' (first|exact rfl|exact zt|apply zi)
    refine AWp.via shρ ⟨[(0, .obj 1001 0), (2, .so ⟨24, []⟩ 1 off2 (L2.length - off2)), (4, .sl 850 (22 + fr)), (6, .ptr (edE f (L.getD off 0) q).cells), (44, roL 2 Edg.cells (f.Blocks.getD (L.getD off 0) default).Edges), (45, .i64 (f.Blocks.getD (L.getD off 0) default).Edges.length), (46, .i64 q), (64, .bool (!decide ((edT f (L.getD off 0) q) ∈ L2.drop off2)))], [(1001, jgC f m o 14 f.Blocks.length), (14, atR 860 f.Blocks.length (visT vis2 (edT f (L.getD off 0) q)) (22 + fr)), (860, atS 861 f.Blocks.length (visT vis2 (edT f (L.getD off 0) q)) (22 + fr) k), (861, atW f.Blocks.length (visT vis2 (edT f (L.getD off 0) q)) (22 + fr) k (updP P2 (edT f (L.getD off 0) q) (alK f (edE f (L.getD off 0) q) (thK f o (L.getD off 0) (P (L.getD off 0)))))), (850, stR 851 (22 + fr) k), (851, stW (22 + fr) k (thK f o (L.getD off 0) (P (L.getD off 0)))), (24, rowN (L2))]⟩ ?_ ?_
    ·refine ⟨?_, ?_, shρ_inj (fun ix h => h) (fun ix h => h), shρ_old _⟩
     ·repeat' (first|exact rfl|exact zt|apply zi)
     ·refine zi (zi ⟨_, ⟨_, rfl, rfl, zt⟩, rfl⟩ ?_) (zi (zi ⟨_, ⟨_, rfl, rfl, zt⟩, Or.inl ⟨_, rfl, fun i hi => (atC_rn (ρ := shρ) (W := 860) (W' := 862) fun _ => rfl).symm⟩⟩ (fun q hq => atC_refs fun hv => ⟨q, hq, hv, rfl⟩)) (zi (fun z hz => zi ⟨_, ⟨_, rfl, rfl, hz⟩, Or.inl ⟨_, rfl, fun i hi => rfl⟩⟩ (fun c hc => zi (atS_in hz hc) zt)) (zi (fun z hz => zi ⟨_, ⟨_, rfl, rfl, hz⟩, Or.inl ⟨_, rfl, fun i hi => rfl⟩⟩ zt) (zi (zi ⟨_, ⟨_, rfl, rfl, zt⟩, Or.inl ⟨_, rfl, fun i hi => rfl⟩⟩ (fun i h => zi ⟨i, h, rfl⟩ zt)) (zi (fun z hz => zi ⟨_, ⟨_, rfl, rfl, hz⟩, Or.inl ⟨_, rfl, fun i hi => rfl⟩⟩ zt) (zi (zi ⟨_, ⟨_, rfl, rfl, zt⟩, Or.inl ⟨_, rfl, fun i hi => rfl⟩⟩ zt) zt))))))
      repeat' (first|exact rfl|exact zt|apply zi)
    repeat (first|apply zq|apply zb|apply zk)
    refine AWp.cond (zi (fun h3 => ?_) (fun h3 => ?_))
    ·have hJ2 := (hJ.new hO hb hq' hv2).2
     have hmu := mu_new (N := 22 + fr) (V := f.Values.length) (P := P2) (L := alK f (edE f (L.getD off 0) q) (thK f o (L.getD off 0) (P (L.getD off 0)))) htn hv2
     repeat (first|apply zq|apply zb|apply zk)
     apply zr
     repeat' (first|exact zt|refine zi ?_ ?_|fail)
     all_goals first|exact rfl|exact Nat.le_refl _|exact (by decide : 0 < 1)|(intro i hi; have e : i = 0 := (by omega); subst e; exact rfl)|exact hL0|exact (by omega : off2 + (L2.length - off2) = L2.length)|(show (L2.length + 1) * 8 ≤ _; omega)|skip
     ·intro _
      refine AWp.rename 69 24 rfl rfl ?_
      repeat (first|apply zq|apply zb|apply zk)
      apply zr;intro _
      refine round_end ((visT vis2 (edT f (L.getD off 0) q), updP P2 (edT f (L.getD off 0) q) (alK f (edE f (L.getD off 0) q) (thK f o (L.getD off 0) (P (L.getD off 0)))), L2 ++ [(edT f (L.getD off 0) q)], off2), q + 1) ⟨by show off2 ≤ (L2 ++ [(edT f (L.getD off 0) q)]).length; rw [hl1]; omega, by show 0 < (L2 ++ [(edT f (L.getD off 0) q)]).length; rw [hl1]; omega, by show JN _ _ _ _ _ (q + 1) _ _ ((L2 ++ [(edT f (L.getD off 0) q)]).drop off2); rw [hd1]; exact hJ2, hq', by show (L2 ++ [(edT f (L.getD off 0) q)]).length + mu0 f.Blocks.length (22 + fr) f.Values.length (visT vis2 (edT f (L.getD off 0) q)) (updP P2 (edT f (L.getD off 0) q) (alK f (edE f (L.getD off 0) q) (thK f o (L.getD off 0) (P (L.getD off 0))))) ≤ _; rw [hl1]; omega, by show 2 * mu0 f.Blocks.length (22 + fr) f.Values.length (visT vis2 (edT f (L.getD off 0) q)) (updP P2 (edT f (L.getD off 0) q) (alK f (edE f (L.getD off 0) q) (thK f o (L.getD off 0) (P (L.getD off 0))))) + ((L2 ++ [(edT f (L.getD off 0) q)]).length - off2) < _; rw [hl1]; omega⟩ ?_ (by show _ - (q + 1) < _ - q; omega)
      refine zi ?_ (zi rfl (zi ?_ (zi (⟨_, _, rfl, rfl, fun i hi => ((congrArg (AV.sigL _) (atC_keep (fun _ => by rfl))).trans (atC_sig (by rfl))).symm⟩) (zi (fun q hq => atC_refs fun hv => ⟨q, hq, hv, rfl⟩) (zi ⟨_, _, rfl, fun z h => ⟨h, _, _, rfl, rfl, fun i h => rfl⟩⟩ (zi (fun z hz c hc => zi (atS_in hz hc) zt) (zi ⟨_, _, rfl, fun z h => ⟨h, _, _, rfl, rfl, fun i h => rfl⟩⟩ (zi (fun z h => zt) (zi ⟨_, _, rfl, rfl, fun i h => rfl⟩ (zi (fun i h => zi ⟨i, h, rfl⟩ zt) (zi ⟨_, _, rfl, fun z h => ⟨h, _, _, rfl, rfl, fun i h => rfl⟩⟩ (zi (fun z h => zt) (zi (⟨_, _, rfl, hl1.symm, fun i hi => snocZ hz hi⟩) (zi zt zt))))))))))))))
      all_goals repeat' (first|exact rfl|exact zt|exact congrArg (fun z => some (AV.i64 z)) (wrap_succ hq' hem)|exact congrArg (fun z => some (AV.so ⟨24, []⟩ 1 off2 z)) (by show L2.length - off2 + 1 = (L2 ++ [(edT f (L.getD off 0) q)]).length - off2; rw [hl1]; omega)|refine zi ?_ ?_)
     ·intro _
      refine AWp.reread 2 (.so ⟨69, []⟩ 1 0 (L2.length - off2 + 1)) rfl (fun F τ w v h => rep_so0 h) ?_
      refine AWp.rename 69 24 rfl rfl ?_
      repeat (first|apply zq|apply zb|apply zk)
      apply zr;intro _
      refine round_end ((visT vis2 (edT f (L.getD off 0) q), updP P2 (edT f (L.getD off 0) q) (alK f (edE f (L.getD off 0) q) (thK f o (L.getD off 0) (P (L.getD off 0)))), L2.drop off2 ++ [(edT f (L.getD off 0) q)], 0), q + 1) ⟨Nat.zero_le _, by show 0 < (L2.drop off2 ++ [(edT f (L.getD off 0) q)]).length; rw [hl2]; omega, hJ2, hq', by show (L2.drop off2 ++ [(edT f (L.getD off 0) q)]).length + mu0 f.Blocks.length (22 + fr) f.Values.length (visT vis2 (edT f (L.getD off 0) q)) (updP P2 (edT f (L.getD off 0) q) (alK f (edE f (L.getD off 0) q) (thK f o (L.getD off 0) (P (L.getD off 0))))) ≤ _; rw [hl2]; omega, by show 2 * mu0 f.Blocks.length (22 + fr) f.Values.length (visT vis2 (edT f (L.getD off 0) q)) (updP P2 (edT f (L.getD off 0) q) (alK f (edE f (L.getD off 0) q) (thK f o (L.getD off 0) (P (L.getD off 0))))) + ((L2.drop off2 ++ [(edT f (L.getD off 0) q)]).length - 0) < _; rw [hl2]; omega⟩ ?_ (by show _ - (q + 1) < _ - q; omega)
      refine zi ?_ (zi rfl (zi ?_ (zi (⟨_, _, rfl, rfl, fun i hi => ((congrArg (AV.sigL _) (atC_keep (fun _ => by rfl))).trans (atC_sig (by rfl))).symm⟩) (zi (fun q hq => atC_refs fun hv => ⟨q, hq, hv, rfl⟩) (zi ⟨_, _, rfl, fun z h => ⟨h, _, _, rfl, rfl, fun i h => rfl⟩⟩ (zi (fun z hz c hc => zi (atS_in hz hc) zt) (zi ⟨_, _, rfl, fun z h => ⟨h, _, _, rfl, rfl, fun i h => rfl⟩⟩ (zi (fun z h => zt) (zi ⟨_, _, rfl, rfl, fun i h => rfl⟩ (zi (fun i h => zi ⟨i, h, rfl⟩ zt) (zi ⟨_, _, rfl, fun z h => ⟨h, _, _, rfl, rfl, fun i h => rfl⟩⟩ (zi (fun z h => zt) (zi (⟨_, _, rfl, hl2.symm, fun i hi => snocD hz hi⟩) (zi zt zt))))))))))))))
      all_goals repeat' (first|exact rfl|exact zt|exact congrArg (fun z => some (AV.i64 z)) (wrap_succ hq' hem)|exact congrArg (fun z => some (AV.so ⟨24, []⟩ 1 0 z)) (by show L2.length - off2 + 1 = (L2.drop off2 ++ [(edT f (L.getD off 0) q)]).length - 0; rw [hl2]; omega)|refine zi ?_ ?_)
    ·exfalso
     have h3 : (!decide ((edT f (L.getD off 0) q) ∈ L2.drop off2)) = false := h3
     have := (hJ.new hO hb hq' hv2).1
     rw [decide_eq_false this] at h3; cases h3
  ·have hq3 : ¬ (q : Int) < (f.Blocks.getD (L.getD off 0) default).Edges.length := of_decide_eq_false h2
   obtain rfl : q = (f.Blocks.getD (L.getD off 0) default).Edges.length := by omega
   apply ze
   refine Exists.intro (vis2, P2, L2, off2) (zi ⟨hoL, hL0, hJ.done hO hb, hmuA⟩ (zi ?_ hmuB))
   refine zi ?_ (zi rfl (zi ?_ (zi ⟨_, _, rfl, rfl, fun i h => rfl⟩ (zi (fun q hq => atC_refs fun hv => ⟨q, hq, hv, rfl⟩) (zi ⟨_, _, rfl, fun z h => ⟨h, _, _, rfl, rfl, fun i h => rfl⟩⟩ (zi (fun z hz c hc => zi (atS_in hz hc) zt) (zi ⟨_, _, rfl, fun z h => ⟨h, _, _, rfl, rfl, fun i h => rfl⟩⟩ (zi (fun z h => zt) (zi ⟨_, _, rfl, rfl, fun i h => rfl⟩ (zi zt zt))))))))))
   all_goals repeat' (first|exact rfl|exact zt|apply zi)
 ·have hle : L.length - off = 0 := by
   have h1 : decide (((L.length - off : Nat) : Int) > 0) = false := h1
   have := of_decide_eq_false h1; omega
  have hT : L.drop off = [] := List.drop_eq_nil_of_le (by omega)
  rw [hT] at hJ0
  have hfin := hJ0.fin hO hA
  apply ze
  refine ⟨Or.inr rfl, ?_⟩
  intro _
  refine zi rfl (zi zt (zi rfl (zi ?_ (zi ⟨_, _, rfl, rfl, fun i hi => (atC_yes rfl).trans (atC_yes (hfin i hi).1).symm⟩ (zi (fun q hq => atC_refs fun _ => ⟨q, hq, rfl, rfl⟩) (zi ⟨_, _, rfl, fun z hz => ?_⟩ (zi (fun z hz c hc => zi (atS_in hz hc) zt) (zi ⟨_, _, rfl, fun z hz => ?_⟩ (zi (fun z h => zt) zt)))))))))
  ·repeat' (first|exact rfl|exact zt|apply zi)
  ·obtain ⟨b, h1, h2, rfl⟩ := hz
   exact ⟨⟨b, h1, (hfin b h1).1, rfl⟩, _, _, rfl, rfl, fun i hi => rfl⟩
  ·obtain ⟨b, c, h1, h2, h3, rfl⟩ := hz
   exact ⟨⟨b, c, h1, (hfin b h1).1, h3, rfl⟩, _, _, rfl, rfl, fun i hi => congrArg (fun z => bitC z i) ((hfin b h1).2 c h3).symm⟩
@[reducible] noncomputable def knK (f : Fun) (o : Oup) (N b a : Nat) : Knw := edKA o b a (thI f o b (sur f o N b) a)
noncomputable def knB (f : Fun) (o : Oup) (N b a q : Nat) : Bool := okA f o b a (knK f o N b a) q
@[reducible] noncomputable def knR (f : Fun) (o : Oup) (N b a : Nat) : AV := .ro 1 (insAt f b a).Operands.length (fun q => [.bool (knB f o N b a q)])
@[reducible] noncomputable def knI (f : Fun) (o : Oup) (N b : Nat) : AV := .ro 1 (f.Blocks.getD b default).Instrs.length (fun a => [knR f o N b a])
@[reducible] noncomputable def knV (f : Fun) (o : Oup) (N : Nat) : AV := .ro 1 f.Blocks.length (fun b => [knI f o N b])
def fstB (g : Nat → Bool) (n : Nat) : Nat → Bool := fun i => if i < n then g i else false
theorem fstB_zero {g : Nat → Bool} {i : Nat} : fstB g 0 i = false := if_neg (Nat.not_lt_zero _)
theorem fstB_succ {g : Nat → Bool} {n i : Nat} {v : Bool} (hv : v = g n) : [AV.bool (fstB g (n + 1) i)] = if i = n then [AV.bool v] else [AV.bool (fstB g n i)] := by
 subst hv
 unfold fstB
 by_cases e : i = n
 ·subst e; rw [if_pos rfl, if_pos (Nat.lt_succ_self _)]
 ·rw [if_neg e]
  by_cases g2 : i < n
  ·rw [if_pos g2, if_pos (by omega)]
  ·rw [if_neg g2, if_neg (by omega)]
theorem fstB_lt {g : Nat → Bool} {n i : Nat} (h : i < n) : fstB g n i = g i := if_pos h
theorem snocR {g : Nat → List AV} {n i : Nat} {x : List AV} (hx : x = g n) (hi : i < n + 1) : g i = if i < n then g i else ([x].getD (i - n) []) := by
 subst hx
 by_cases e : i < n
 ·rw [if_pos e]
 ·rw [if_neg e, show i = n by omega, Nat.sub_self]; rfl
theorem hvT {F b N : Nat} : atC F (fun _ => true) N ((b : Nat) : Int).toNat = [.sl ⟨F, [b]⟩ N] := if_pos rfl
end Go.Proofs.Ytjjgjflbhpoloaa
