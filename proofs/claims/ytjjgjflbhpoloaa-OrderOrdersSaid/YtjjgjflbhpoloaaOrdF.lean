/- Contract of order's do. Condition: moves that may be, their goals apart. -/
import Derived.Test.YtjjgjflbhpoloaaOrdE
set_option linter.unusedVariables false
set_option linter.unusedSimpArgs false
namespace Go.Proofs.Ytjjgjflbhpoloaa
open Go Go.Abs Go.RowKit
def mvρ (i j : Nat) (nm : Nm) : Option Nm := bif Nat.beq nm.id i then some ⟨j, nm.ix⟩ else some nm
theorem mvρ_inj {i j : Nat} {p : Nm → Prop} (h : ∀ ix, ¬ p ⟨j, ix⟩) : ∀ a b c : Nm, p a → p b → mvρ i j a = some c → mvρ i j b = some c → a = b := by
 rintro ⟨ai, ax⟩ ⟨bi, bx⟩ ⟨ci, cx⟩ pa pb ha hb
 unfold mvρ at ha hb
 cases h1 : Nat.beq ai i <;> cases h2 : Nat.beq bi i <;> simp only [h1, h2, cond_true, cond_false, Option.some.injEq, Nm.mk.injEq] at ha hb
 ·obtain ⟨q1, q2⟩ := ha; obtain ⟨q3, q4⟩ := hb; subst q1 q2 q3 q4; rfl
 ·obtain ⟨q1, q2⟩ := ha; obtain ⟨q3, q4⟩ := hb; subst q1 q2 q3; exact absurd pa (h _)
 ·obtain ⟨q1, q2⟩ := ha; obtain ⟨q3, q4⟩ := hb; subst q1 q2 q3; exact absurd pb (h _)
 ·obtain ⟨q1, q2⟩ := ha; obtain ⟨q3, q4⟩ := hb
  have e1 := Nat.eq_of_beq_eq_true h1
  have e2 := Nat.eq_of_beq_eq_true h2
  subst e1 e2 q2 q4; rfl
theorem mvρ_old {i j : Nat} (hi : i < 1000) (p : Nm → Prop) : ∀ a : Nm, p a → 1000 ≤ a.id → mvρ i j a = some a := by
 intro a _ ha
 unfold mvρ
 cases h1 : Nat.beq a.id i with
 | false => rfl
 | true => have := Nat.eq_of_beq_eq_true h1; omega
def trM (fr : Nat) (p : Plc) (y : Mov) : Mov := if y.From = p then ⟨spP fr, y.To⟩ else y
def trK (fr : Nat) (p : Plc) (L : List Mov) (i : Nat) : List Mov := (List.range L.length).map fun j => if j < i then trM fr p (L.getD j default) else L.getD j default
section
variable {fr : Nat} {p : Plc} {L : List Mov}
theorem trK_len {i : Nat} : (trK fr p L i).length = L.length := by unfold trK; simp
theorem trK_at {i j : Nat} (h : j < L.length) : (trK fr p L i).getD j default = if j < i then trM fr p (L.getD j default) else L.getD j default := by
 unfold trK
 rw [List.getD_eq_getElem?_getD, List.getElem?_map, List.getElem?_range h]; rfl
theorem trK_out {i j : Nat} (h : ¬ j < L.length) : (trK fr p L i).getD j default = default := by
 rw [List.getD_eq_getElem?_getD, List.getElem?_eq_none (by rw [trK_len]; omega)]; rfl
theorem L_out {j : Nat} (h : ¬ j < L.length) : L.getD j default = default := by
 rw [List.getD_eq_getElem?_getD, List.getElem?_eq_none (by omega)]; rfl
theorem trK_zero (j : Nat) : (trK fr p L 0).getD j default = L.getD j default := by
 by_cases h : j < L.length
 ·rw [trK_at h, if_neg (Nat.not_lt_zero _)]
 ·rw [trK_out h, L_out h]
theorem trK_all : trK fr p L L.length = trnL fr p L := by
 unfold trnL
 refine List.ext_getElem? fun j => ?_
 by_cases h : j < L.length
 ·have h1 := trK_at (fr := fr) (p := p) (i := L.length) h
  rw [if_pos h, List.getD_eq_getElem?_getD, List.getElem?_eq_getElem (by rw [trK_len]; exact h)] at h1
  rw [List.getElem?_eq_getElem (by rw [trK_len]; exact h), List.getElem?_map, List.getElem?_eq_getElem h]
  have h2 : (trK fr p L L.length)[j]'(by rw [trK_len]; exact h) = trM fr p (L.getD j default) := h1
  rw [h2, List.getD_eq_getElem?_getD, List.getElem?_eq_getElem h]; rfl
 ·rw [List.getElem?_eq_none (by rw [trK_len]; omega), List.getElem?_map, List.getElem?_eq_none (by omega)]; rfl
theorem trK_ne {i j : Nat} (h : j ≠ i) : (trK fr p L (i + 1)).getD j default = (trK fr p L i).getD j default := by
 by_cases hj : j < L.length
 ·rw [trK_at hj, trK_at hj]
  by_cases e : j < i
  ·rw [if_pos (by omega), if_pos e]
  ·rw [if_neg (by omega), if_neg e]
 ·rw [trK_out hj, trK_out hj]
theorem trK_new {i : Nat} (h : i < L.length) : (trK fr p L (i + 1)).getD i default = trM fr p (L.getD i default) := by rw [trK_at h, if_pos (Nat.lt_succ_self i)]
theorem trK_old {i : Nat} (h : i < L.length) : (trK fr p L i).getD i default = L.getD i default := by rw [trK_at h, if_neg (Nat.lt_irrefl i)]
end
theorem beq_plc {p q : Plc} {b : Bool} (h : ((p.Kind == q.Kind) && ((p.Class == q.Class) && ((p.N == q.N) && true))) = b) : (p == q) = b := by rw [← plc_eq]; exact h
set_option maxRecDepth 8000 in
set_option maxHeartbeats 16000000 in
theorem m_do (m : Mch) (hm : machF m = 0) (fr N n : Nat) (hn : n ≤ 5000) (hNm : N ≤ maxLen) (L0 : List Mov) (A : List (Plc × Int)) (σ w : Nat → Int) (I0 : DoI m fr n σ w (lkP A) L0 []) (hN0 : L0.length ≤ N) :
  ACallM B.P 33 ⟨[.obj 1001 0], jbH m fr N L0 A 1004 [], .tup [], jbH m fr N [] A 61 (outF m fr (lkP A) L0)⟩ := by
 refine ACallM.enter B _ _ Try.func33 rfl rfl Try.ntmps33 Try.results33 rfl ?_ fun hreal => ?_
 ·refine And.intro ?_ (And.intro ?_ ?_)
  all_goals repeat' (first|exact rfl|exact trivial|refine And.intro ?_ ?_)
 clear hreal
 refine AWp.via (mvρ 61 1004) ⟨[(0, .obj 1001 0)], jbH m fr N L0 A 61 []⟩ ?_ ?_
 ·refine ⟨?_, ?_, mvρ_inj (fun ix h => h), mvρ_old (by decide) _⟩
  ·repeat' (first|exact rfl|exact trivial|refine And.intro ?_ ?_)
  ·refine And.intro (And.intro ⟨_, ⟨_, rfl, rfl, trivial⟩, rfl⟩ ?_) (And.intro (And.intro ⟨_, ⟨_, rfl, rfl, trivial⟩, Or.inl ⟨_, rfl, fun i hi => rfl⟩⟩ trivial) (And.intro (And.intro ⟨_, ⟨_, rfl, rfl, trivial⟩, rfl⟩ trivial) (And.intro (And.intro ⟨_, ⟨_, rfl, rfl, trivial⟩, Or.inl ⟨_, rfl, fun i hi => rfl⟩⟩ trivial) trivial)))
   repeat' (first|exact rfl|exact trivial|refine And.intro ?_ ?_)
 repeat (first|apply zq|apply zb|apply zk)
 refine AWp.loop (fun s : Nat × (List Mov × List Mov) => ⟨[(0, .obj 1001 0)], jbH m fr N s.2.1 A 61 s.2.2⟩) (fun s => s.2 = itF m fr (lkP A) (L0, []) s.1 ∧ s.1 + lefF s.2.1 ≤ lefF L0 ∧ DoI m fr n σ w (lkP A) s.2.1 s.2.2 ∧ s.2.1.length ≤ N) (fun s => lefF s.2.1) (0, (L0, [])) ⟨rfl, by simp, I0, hN0⟩ ?_ ?_
 ·refine And.intro ?_ (And.intro rfl (And.intro ?_ (And.intro ⟨_, _, rfl, rfl, fun i hi => rfl⟩ (And.intro trivial (And.intro rfl (And.intro trivial (And.intro ⟨_, _, rfl, rfl, fun i hi => rfl⟩ (And.intro trivial trivial))))))))
  all_goals repeat' (first|exact rfl|exact trivial|refine And.intro ?_ ?_)
 rintro ⟨k, L, out⟩ ⟨hk1, hk2, I, hLN⟩
 have hk1 : (L, out) = itF m fr (lkP A) (L0, []) k := hk1
 have hk2 : k + lefF L ≤ lefF L0 := hk2
 have I : DoI m fr n σ w (lkP A) L out := I
 have hLN : L.length ≤ N := hLN
 have hLm : L.length ≤ maxLen := Nat.le_trans hLN hNm
 have hol : out.length ≤ 100000 := by
  have h1 := I.len
  split at h1 <;> omega
 repeat (first|apply zq|apply zb|apply zk)
 apply zr
 intro _
 repeat (first|apply zq|apply zb|apply zk)
 refine AWp.cond (And.intro (fun h1 => ?_) (fun h1 => ?_))
 ·have hL : 0 < L.length := by have h1 : (L.length : Int) > 0 := of_decide_eq_true h1; omega
  obtain ⟨I2, hmu⟩ := DoI.step (s := (L, out)) I hm hL
  repeat (first|apply zq|apply zb|apply zk)
  apply zr
  repeat' (first|exact trivial|refine And.intro ?_ ?_|refine CallX.lend (m_free m fr N L A out hLm hLN) [(1001, 1001), (1002, 1002), (1003, 1003), (1004, 61)] rfl (And.intro rfl (And.intro rfl (And.intro rfl (And.intro rfl trivial)))) rfl ?_|fail)
  intro _
  repeat (first|apply zq|apply zb|apply zk)
  apply zr
  intro _
  repeat (first|apply zq|apply zb|apply zk)
  refine AWp.cond (And.intro (fun h2 => ?_) (fun h2 => ?_))
  ·have hfi : L.findIdx (frB L) < L.length := by
    have h2 : fiI (frB L) L ≥ 0 := of_decide_eq_true h2
    unfold fiI at h2
    split at h2
    ·assumption
    ·omega
   have hfe : fiI (frB L) L = ((L.findIdx (frB L) : Nat) : Int) := if_pos hfi
   have hst : stF m fr (lkP A) (L, out) = (L.eraseIdx (L.findIdx (frB L)), out ++ putL m (L.getD (L.findIdx (frB L)) default).From (L.getD (L.findIdx (frB L)) default).To (lkP A (L.getD (L.findIdx (frB L)) default).To)) := if_pos hfi
   rw [hst] at I2 hmu
   rw [hfe]
   have hcl := I.cl _ (getD_mem hfi)
   generalize L.findIdx (frB L) = i at *
   have hil : (L.eraseIdx i).length = L.length - 1 := List.length_eraseIdx_of_lt hfi
   repeat (first|apply zq|apply zb|apply zk)
   apply zr
   repeat' (first|exact trivial|refine And.intro ?_ ?_|fail)
   all_goals first|exact fun _ => nn (hfi)|exact fun _ => Nat.lt_of_lt_of_le hfi hLN|exact Nat.lt_of_lt_of_le hfi hLN|skip
   intro _
   refine AWp.freezeObj 3 rfl rfl ?_
   repeat (first|apply zq|apply zb|apply zk)
   refine AWp.quietU (.q 0 [] (.q 1 [] (.q 2 [] (.q 3 [] (.q 4 [] (.q 5 [] (.q 6 [1001] (.q 7 [1001] (.q 8 [1001] (.q 9 [] (.q 10 [] (.k 11 [] (.k 12 [] .fin .no) .no)))))))))))) [(0, []), (1, []), (2, []), (3, []), (4, []), (5, []), (6, [1001]), (7, [1001]), (8, [1001]), (9, []), (10, [])] mixed (by kernel_rfl) ?_
   repeat' (first|exact trivial|refine And.intro ?_ ?_|refine Exists.intro (lkV false A (L.getD i default).To) (And.intro (look_pl A (L.getD i default).To false) (And.intro rfl ?_))|refine CallX.lend (m_put m fr N L A out hol (L.getD i default).From (L.getD i default).To (lkP A (L.getD i default).To) hcl.1) [(1001, 1001), (1002, 1002), (1003, 1003), (1004, 61), (44, 62)] rfl (And.intro rfl (And.intro rfl (And.intro rfl (And.intro rfl trivial)))) rfl ?_|fail)
   intro _
   refine AWp.rename 62 61 rfl rfl ?_
   repeat (first|apply zq|apply zb|apply zk)
   apply zr
   repeat' (first|exact trivial|refine And.intro ?_ ?_|refine CallX.lend (m_Delete N L i hfi hLN) [(1001, 1002)] (show _ = _ from congrArg (fun z => [AV.sl 1002 L.length, AV.i64 (i : Int), AV.i64 z]) (wrap_succ hfi hLm)) (And.intro rfl trivial) rfl ?_|fail)
   intro _
   apply ze
   have hmu : lefF (L.eraseIdx i) < lefF L := hmu
   refine Exists.intro (k + 1, (L.eraseIdx i, out ++ putL m (L.getD i default).From (L.getD i default).To (lkP A (L.getD i default).To))) (And.intro ⟨?_, ?_, I2, ?_⟩ (And.intro ?_ hmu))
   ·show _ = stF m fr (lkP A) (itF m fr (lkP A) (L0, []) k)
    rw [← hk1, hst]
   ·show k + 1 + lefF (L.eraseIdx i) ≤ _; omega
   ·show (L.eraseIdx i).length ≤ N; omega
   ·refine And.intro ?_ (And.intro rfl (And.intro ?_ (And.intro ⟨_, _, rfl, rfl, fun i hi => rfl⟩ (And.intro trivial (And.intro rfl (And.intro trivial (And.intro ⟨_, _, rfl, rfl, fun i hi => rfl⟩ (And.intro trivial trivial))))))))
    all_goals repeat' (first|exact rfl|exact trivial|refine And.intro ?_ ?_)
  refine AWp.skip ?_
  have hnf : ¬ L.findIdx (frB L) < L.length := fun h => by
   have h3 : ¬ fiI (frB L) L ≥ 0 := of_decide_eq_false h2
   unfold fiI at h3; rw [if_pos h] at h3; omega
  have hst : stF m fr (lkP A) (L, out) = (trnL fr (L.getD 0 default).To L, (out ++ putL m (L.getD 0 default).To (spP fr) (clK (lkP A) (L.getD 0 default).To L L.length))) := by
   unfold stF; rw [if_neg hnf, if_neg (by show ¬ L.length = 0; omega)]
  rw [hst] at I2 hmu
  have htl : (trnL fr (L.getD 0 default).To L).length = L.length := by unfold trnL; simp
  have hck : 0 ≤ (clK (lkP A) (L.getD 0 default).To L L.length) ∧ (clK (lkP A) (L.getD 0 default).To L L.length) < 2 := clK_in (fun y hy => (I.cl y hy).1) L.length (Nat.le_refl _)
  repeat (first|apply zq|apply zb|apply zk)
  apply zr
  repeat' (first|exact trivial|refine And.intro ?_ ?_|fail)
  all_goals first|exact fun _ => And.intro (Int.le_refl 0) (by show (0 : Int) < L.length; omega)|exact fun _ => Nat.lt_of_lt_of_le hL hLN|exact Nat.lt_of_lt_of_le hL hLN|skip
  intro _
  refine AWp.freezeObj 4 rfl rfl ?_
  repeat (first|apply zq|apply zb|apply zk)
  apply zr
  intro _
  repeat (first|apply zq|apply zb|apply zk)
  apply zr
  intro _
  repeat (first|apply zq|apply zb|apply zk)
  refine AWp.loop (fun i : Nat => ⟨[(0, .obj 1001 0), (4, .ptr (Mov.cells (L.getD 0 default))), (5, .i64 (clK (lkP A) (L.getD 0 default).To L i)), (60, .sl 1002 L.length), (61, .i64 L.length), (62, .i64 i)], jbH m fr N L A 61 out⟩) (fun i => i ≤ L.length) (fun i => L.length - i) 0 (Nat.zero_le _) ?_ ?_
  ·refine And.intro ?_ (And.intro rfl (And.intro ?_ (And.intro ⟨_, _, rfl, rfl, fun i hi => rfl⟩ (And.intro trivial (And.intro rfl (And.intro trivial (And.intro ⟨_, _, rfl, rfl, fun i hi => rfl⟩ (And.intro trivial trivial))))))))
   all_goals repeat' (first|exact rfl|exact trivial|refine And.intro ?_ ?_)
  intro i hi0
  repeat (first|apply zq|apply zb|apply zk)
  apply zr
  intro _
  repeat (first|apply zq|apply zb|apply zk)
  refine AWp.cond (And.intro (fun h3 => ?_) (fun h3 => ?_))
  ·have hi : i < L.length := Int.ofNat_lt.1 (of_decide_eq_true h3)
   repeat (first|apply zq|apply zb|apply zk)
   apply zr
   repeat' (first|exact trivial|refine And.intro ?_ ?_|fail)
   all_goals first|exact fun _ => nn (hi)|exact fun _ => Nat.lt_of_lt_of_le hi hLN|exact Nat.lt_of_lt_of_le hi hLN|skip
   intro _
   refine AWp.freezeObj 7 rfl rfl ?_
   repeat (first|apply zq|apply zb|apply zk)
   apply zr
   intro _
   repeat (first|apply zq|apply zb|apply zk)
   refine AWp.cond (And.intro (fun h4 => ?_) (fun h4 => ?_))
   ·have h5 : ((L.getD i default).From == (L.getD 0 default).To) = true := beq_plc h4
    have hu : clK (lkP A) (L.getD 0 default).To L (i + 1) = lkP A (L.getD i default).To := if_pos (beq_iff_eq.1 h5)
    repeat (first|apply zq|apply zb|apply zk)
    refine AWp.quietU (.q 0 [] (.q 1 [1001] (.q 2 [1001] (.q 3 [1001] (.q 4 [] (.q 5 [] (.k 6 [] (.q 7 [] .fin) .no))))))) [(0, []), (1, [1001]), (2, [1001]), (3, [1001]), (4, []), (5, []), (7, [])] mixed (by kernel_rfl) ?_
    repeat' (first|exact trivial|refine And.intro ?_ ?_|refine Exists.intro (lkV false A (L.getD i default).To) (And.intro (look_pl A (L.getD i default).To false) (And.intro rfl ?_))|fail)
    intro _
    repeat (first|apply zq|apply zb|apply zk)
    apply zr
    intro _
    refine round_end (i + 1) hi ?_ (by omega)
    refine And.intro ?_ (And.intro rfl (And.intro ?_ (And.intro ⟨_, _, rfl, rfl, fun i hi => rfl⟩ (And.intro trivial (And.intro rfl (And.intro trivial (And.intro ⟨_, _, rfl, rfl, fun i hi => rfl⟩ (And.intro trivial trivial))))))))
    all_goals repeat' (first|exact rfl|exact trivial|exact congrArg (fun z => some (AV.i64 z)) hu.symm|exact congrArg (fun z => some (AV.i64 z)) (wrap_succ hi hLm)|refine And.intro ?_ ?_)
   have h5 : ((L.getD i default).From == (L.getD 0 default).To) = false := beq_plc h4
   have hu : clK (lkP A) (L.getD 0 default).To L (i + 1) = clK (lkP A) (L.getD 0 default).To L i := if_neg (beq_eq_false_iff_ne.1 h5)
   refine AWp.skip ?_
   repeat (first|apply zq|apply zb|apply zk)
   apply zr
   intro _
   refine round_end (i + 1) hi ?_ (by omega)
   refine And.intro ?_ (And.intro rfl (And.intro ?_ (And.intro ⟨_, _, rfl, rfl, fun i hi => rfl⟩ (And.intro trivial (And.intro rfl (And.intro trivial (And.intro ⟨_, _, rfl, rfl, fun i hi => rfl⟩ (And.intro trivial trivial))))))))
   all_goals repeat' (first|exact rfl|exact trivial|exact congrArg (fun z => some (AV.i64 z)) hu.symm|exact congrArg (fun z => some (AV.i64 z)) (wrap_succ hi hLm)|refine And.intro ?_ ?_)
  have hi3 : ¬ (i : Int) < L.length := of_decide_eq_false h3
  obtain rfl : i = L.length := by omega
  apply ze
  repeat (first|apply zq|apply zb|apply zk)
  refine AWp.quietU (.q 0 [] (.q 1 [] (.q 2 [] (.q 3 [] (.q 4 [1001] (.q 5 [1001] (.q 6 [1001] (.q 7 [] (.k 8 [] .fin .no))))))))) [(0, []), (1, []), (2, []), (3, []), (4, [1001]), (5, [1001]), (6, [1001]), (7, [])] mixed (by kernel_rfl) ?_
  repeat' (first|exact trivial|refine And.intro ?_ ?_|refine CallX.lend (m_put m fr N L A out hol (L.getD 0 default).To (spP fr) (clK (lkP A) (L.getD 0 default).To L L.length) hck) [(1001, 1001), (1002, 1002), (1003, 1003), (1004, 61), (44, 62)] rfl (And.intro rfl (And.intro rfl (And.intro rfl (And.intro rfl trivial)))) rfl ?_|fail)
  intro _
  refine AWp.rename 62 61 rfl rfl ?_
  repeat (first|apply zq|apply zb|apply zk)
  apply zr
  intro _
  repeat (first|apply zq|apply zb|apply zk)
  refine AWp.loop (fun i : Nat => ⟨[(0, .obj 1001 0), (4, .ptr (Mov.cells (L.getD 0 default))), (91, .sl 1002 L.length), (92, .i64 L.length), (93, .i64 i)], [(1001, jbC m fr L.length ⟨61, []⟩ (out ++ putL m (L.getD 0 default).To (spP fr) (clK (lkP A) (L.getD 0 default).To L L.length)).length), (1002, rwM N (trK fr (L.getD 0 default).To L i)), (1003, .mp (esL A)), (61, rwM (out ++ putL m (L.getD 0 default).To (spP fr) (clK (lkP A) (L.getD 0 default).To L L.length)).length (out ++ putL m (L.getD 0 default).To (spP fr) (clK (lkP A) (L.getD 0 default).To L L.length)))]⟩) (fun i => i ≤ L.length) (fun i => L.length - i) 0 (Nat.zero_le _) ?_ ?_
  ·refine And.intro ?_ (And.intro rfl (And.intro ?_ (And.intro ⟨_, _, rfl, rfl, fun j hj => congrArg Mov.cells (trK_zero j)⟩ (And.intro trivial (And.intro rfl (And.intro trivial (And.intro ⟨_, _, rfl, rfl, fun i hi => rfl⟩ (And.intro trivial trivial))))))))
   all_goals repeat' (first|exact rfl|exact trivial|refine And.intro ?_ ?_)
  intro i hi0
  repeat (first|apply zq|apply zb|apply zk)
  apply zr
  intro _
  repeat (first|apply zq|apply zb|apply zk)
  refine AWp.cond (And.intro (fun h3 => ?_) (fun h3 => ?_))
  ·have hi : i < L.length := Int.ofNat_lt.1 (of_decide_eq_true h3)
   have hY := trK_old (fr := fr) (p := (L.getD 0 default).To) hi
   repeat (first|apply zq|apply zb|apply zk)
   apply zr
   repeat' (first|exact trivial|refine And.intro ?_ ?_|fail)
   all_goals first|exact fun _ => nn (hi)|exact fun _ => Nat.lt_of_lt_of_le hi hLN|exact Nat.lt_of_lt_of_le hi hLN|skip
   intro _
   refine AWp.freezeObj 9 rfl rfl ?_
   repeat (first|apply zq|apply zb|apply zk)
   apply zr
   intro _
   repeat (first|apply zq|apply zb|apply zk)
   refine AWp.cond (And.intro (fun h4 => ?_) (fun h4 => ?_))
   ·have h5 : (((trK fr (L.getD 0 default).To L i).getD i default).From == (L.getD 0 default).To) = true := beq_plc h4
    rw [hY] at h5
    have hT : trM fr (L.getD 0 default).To (L.getD i default) = ⟨spP fr, (L.getD i default).To⟩ := if_pos (beq_iff_eq.1 h5)
    repeat (first|apply zq|apply zb|apply zk)
    refine AWp.quietU (.q 0 [] (.q 1 [1001] (.q 2 [1001] (.q 3 [1001] (.q 4 [] (.q 5 [] (.q 6 [1001] (.q 7 [1001] (.q 8 [1001] (.q 9 [1002] (.q 10 [1002] (.k 11 [] .fin .no)))))))))))) [(0, []), (1, [1001]), (2, [1001]), (3, [1001]), (4, []), (5, []), (6, [1001]), (7, [1001]), (8, [1001]), (9, [1002]), (10, [1002])] mixed (by kernel_rfl) ?_
    repeat' (first|exact trivial|refine And.intro ?_ ?_|fail)
    all_goals first|exact fun _ => nn (hi)|exact fun _ => Nat.lt_of_lt_of_le hi hLN|exact Nat.lt_of_lt_of_le hi hLN|skip
    intro _
    repeat (first|apply zq|apply zb|apply zk)
    apply zr
    intro _
    refine round_end (i + 1) hi ?_ (by omega)
    refine And.intro ?_ (And.intro rfl (And.intro ?_ (And.intro ⟨_, _, rfl, rfl, fun j hj => ?_⟩ (And.intro trivial (And.intro rfl (And.intro trivial (And.intro ⟨_, _, rfl, rfl, fun i hi => rfl⟩ (And.intro trivial trivial))))))))
    ·repeat' (first|exact rfl|exact trivial|exact congrArg (fun z => some (AV.i64 z)) (wrap_succ hi hLm)|refine And.intro ?_ ?_)
    ·repeat' (first|exact rfl|exact trivial|refine And.intro ?_ ?_)
    ·by_cases e : j = i
     ·subst e
      refine Eq.trans (congrArg Mov.cells ((trK_new hi).trans hT)) (Eq.trans ?_ (if_pos rfl).symm)
      show _ = ([] : List AV) ++ [.i64 2, .i64 0, .i64 (fr : Nat)] ++ (Mov.cells ((trK fr (L.getD 0 default).To L j).getD j default)).drop 3
      rw [hY]; rfl
     ·exact (congrArg Mov.cells (trK_ne e)).trans (if_neg e).symm
   have h5 : (((trK fr (L.getD 0 default).To L i).getD i default).From == (L.getD 0 default).To) = false := beq_plc h4
   rw [hY] at h5
   have hT : trM fr (L.getD 0 default).To (L.getD i default) = L.getD i default := if_neg (beq_eq_false_iff_ne.1 h5)
   refine AWp.skip ?_
   repeat (first|apply zq|apply zb|apply zk)
   apply zr
   intro _
   refine round_end (i + 1) hi ?_ (by omega)
   refine And.intro ?_ (And.intro rfl (And.intro ?_ (And.intro ⟨_, _, rfl, rfl, fun j hj => ?_⟩ (And.intro trivial (And.intro rfl (And.intro trivial (And.intro ⟨_, _, rfl, rfl, fun i hi => rfl⟩ (And.intro trivial trivial))))))))
   ·repeat' (first|exact rfl|exact trivial|exact congrArg (fun z => some (AV.i64 z)) (wrap_succ hi hLm)|refine And.intro ?_ ?_)
   ·repeat' (first|exact rfl|exact trivial|refine And.intro ?_ ?_)
   ·by_cases e : j = i
    ·subst e
     exact congrArg Mov.cells (((trK_new hi).trans hT).trans hY.symm)
    ·exact congrArg Mov.cells (trK_ne e)
  have hi3 : ¬ (i : Int) < L.length := of_decide_eq_false h3
  obtain rfl : i = L.length := by omega
  apply ze
  have hmu : lefF (trnL fr (L.getD 0 default).To L) < lefF L := hmu
  refine Exists.intro (k + 1, (trnL fr (L.getD 0 default).To L, (out ++ putL m (L.getD 0 default).To (spP fr) (clK (lkP A) (L.getD 0 default).To L L.length)))) (And.intro ⟨?_, ?_, I2, ?_⟩ (And.intro ?_ hmu))
  ·show _ = stF m fr (lkP A) (itF m fr (lkP A) (L0, []) k)
   rw [← hk1, hst]
  ·show k + 1 + lefF (trnL fr (L.getD 0 default).To L) ≤ _; omega
  ·show (trnL fr (L.getD 0 default).To L).length ≤ N; omega
  ·refine And.intro ?_ (And.intro (congrArg (fun q => some (HO.cells [.i64 m.r0, .i64 m.r1, .sl 1002 q, .mp 1003, .i64 2, .i64 0, .i64 fr, .sl 61 (out ++ putL m (L.getD 0 default).To (spP fr) (clK (lkP A) (L.getD 0 default).To L L.length)).length])) htl.symm) (And.intro ?_ (And.intro ⟨_, _, rfl, rfl, fun j hj => congrArg (fun K : List Mov => Mov.cells (K.getD j default)) trK_all.symm⟩ (And.intro trivial (And.intro rfl (And.intro trivial (And.intro ⟨_, _, rfl, rfl, fun i hi => rfl⟩ (And.intro trivial trivial))))))))
   all_goals repeat' (first|exact rfl|exact trivial|refine And.intro ?_ ?_)
 have hL : L.length = 0 := by have h1 : ¬ (L.length : Int) > 0 := of_decide_eq_false h1; omega
 have hLn : L = [] := List.length_eq_zero_iff.1 hL
 have hout : outF m fr (lkP A) L0 = out := by
  rw [outF_of (k := k) (by rw [← hk1]; exact hL) (by omega), ← hk1]
 subst hLn
 rw [hout]
 apply ze
 refine ⟨Or.inr rfl, ?_⟩
 intro _
 refine And.intro rfl (And.intro trivial (And.intro rfl (And.intro ?_ (And.intro ⟨_, _, rfl, rfl, fun i hi => rfl⟩ (And.intro trivial (And.intro rfl (And.intro trivial (And.intro ⟨_, _, rfl, rfl, fun i hi => rfl⟩ (And.intro trivial trivial)))))))))
 repeat' (first|exact rfl|exact trivial|refine And.intro ?_ ?_)
end Go.Proofs.Ytjjgjflbhpoloaa
