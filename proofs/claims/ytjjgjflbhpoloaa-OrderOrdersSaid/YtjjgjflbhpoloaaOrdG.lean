/- Contract of order.Order. Condition: moves that a machine holds. -/
import Derived.Test.YtjjgjflbhpoloaaOrdF
set_option linter.unusedVariables false
set_option linter.unusedSimpArgs false
namespace Go.Proofs.Ytjjgjflbhpoloaa
open Go Go.Abs Go.RowKit
def newρ (d : Nat) (nm : Nm) : Option Nm := bif Nat.beq nm.id d then none else some nm
theorem newρ_inj (d : Nat) (p : Nm → Prop) : ∀ a b c : Nm, p a → p b → newρ d a = some c → newρ d b = some c → a = b := by
 intro a b c _ _ ha hb
 unfold newρ at ha hb
 cases h1 : Nat.beq a.id d <;> cases h2 : Nat.beq b.id d <;> simp_all
theorem newρ_old {d : Nat} (hd : d < 1000) (p : Nm → Prop) : ∀ a : Nm, p a → 1000 ≤ a.id → newρ d a = some a := by
 intro a _ ha
 unfold newρ
 cases h1 : Nat.beq a.id d with
 | false => rfl
 | true => have := Nat.eq_of_beq_eq_true h1; omega
def mvG (m : Mch) (l : List Mov) (cs : List Int) (fr : Int) (i : Nat) : Int :=
 if (decide (cs.getD i default < 0) || decide (cs.getD i default ≥ 2)) = true then 17
 else if (!placeF m fr (l.getD i default).From || !placeF m fr (l.getD i default).To) = true then 2
 else if (((l.getD i default).From.Kind == 1 && (l.getD i default).From.Class != cs.getD i default) || ((l.getD i default).To.Kind == 1 && (l.getD i default).To.Class != cs.getD i default)) = true then 17
 else if hasP (prL l cs i) (l.getD i default).To = true then 7 else 0
section
variable {m : Mch} {l : List Mov} {cs : List Int} {fr : Int} {i : Nat}
theorem bif_or3 (a b : Bool) : (bif a then true else b) = (a || b) := by cases a <;> rfl
theorem bif_and3 (a b : Bool) : (bif a then b else false) = (a && b) := by cases a <;> rfl
theorem mvG_1 (h : (decide (cs.getD i default < 0) || decide (cs.getD i default ≥ 2)) = true) : mvG m l cs fr i = 17 := if_pos h
theorem mvG_2 (h : (decide (cs.getD i default < 0) || decide (cs.getD i default ≥ 2)) = false) (h2 : (!placeF m fr (l.getD i default).From || !placeF m fr (l.getD i default).To) = true) : mvG m l cs fr i = 2 := by
 unfold mvG; rw [if_neg (by rw [h]; simp), if_pos h2]
theorem mvG_3 (h : (decide (cs.getD i default < 0) || decide (cs.getD i default ≥ 2)) = false) (h2 : (!placeF m fr (l.getD i default).From || !placeF m fr (l.getD i default).To) = false) (h3 : (((l.getD i default).From.Kind == 1 && (l.getD i default).From.Class != cs.getD i default) || ((l.getD i default).To.Kind == 1 && (l.getD i default).To.Class != cs.getD i default)) = true) : mvG m l cs fr i = 17 := by
 unfold mvG; rw [if_neg (by rw [h]; simp), if_neg (by rw [h2]; simp), if_pos h3]
theorem mvG_4 (h : (decide (cs.getD i default < 0) || decide (cs.getD i default ≥ 2)) = false) (h2 : (!placeF m fr (l.getD i default).From || !placeF m fr (l.getD i default).To) = false) (h3 : (((l.getD i default).From.Kind == 1 && (l.getD i default).From.Class != cs.getD i default) || ((l.getD i default).To.Kind == 1 && (l.getD i default).To.Class != cs.getD i default)) = false) : mvG m l cs fr i = if hasP (prL l cs i) (l.getD i default).To = true then 7 else 0 := by
 unfold mvG; rw [if_neg (by rw [h]; simp), if_neg (by rw [h2]; simp), if_neg (by rw [h3]; simp)]
theorem mvG_zero (h : mvG m l cs fr i = 0) : (0 ≤ cs.getD i default ∧ cs.getD i default < 2) ∧ (placeF m fr (l.getD i default).From = true ∧ placeF m fr (l.getD i default).To = true) ∧ (((l.getD i default).From.Kind = 1 → (l.getD i default).From.Class = cs.getD i default) ∧ ((l.getD i default).To.Kind = 1 → (l.getD i default).To.Class = cs.getD i default)) ∧ hasP (prL l cs i) (l.getD i default).To = false := by
 unfold mvG at h
 split at h
 ·cases h
 rename_i h1
 split at h
 ·cases h
 rename_i h2
 split at h
 ·cases h
 rename_i h3
 split at h
 ·cases h
 rename_i h4
 simp only [Bool.or_eq_true, Bool.and_eq_true, decide_eq_true_eq, not_or, Bool.not_eq_true', Bool.not_eq_false, beq_iff_eq, bne_iff_ne, ne_eq, not_and, Decidable.not_not] at h1 h2 h3
 refine ⟨by omega, h2, h3, by simpa using h4⟩
end
def mvF (m : Mch) (l : List Mov) (cs : List Int) (fr : Int) : Int :=
 if machF m ≠ 0 then machF m else if (fr < 0 ∨ 1000 ≤ fr) ∨ 5000 < l.length then 1 else if cs.length ≠ l.length then 4 else firstF (mvG m l cs fr) l.length
theorem mvsOk_of {m : Mch} {l : List Mov} {cs : List Int} {fr : Nat} (h : ∀ j, j < l.length → mvG m l cs fr j = 0) : MvsOk m fr (lkP (prL l cs l.length)) l := by
 have hd : ∀ a b, b < l.length → a < b → (l.getD a default).To ≠ (l.getD b default).To := fun a b hb hab e => by
  have h4 := (mvG_zero (h b hb)).2.2.2
  have : hasP (prL l cs b) (l.getD b default).To = true := (hasP_iff b).2 ⟨a, hab, e⟩
  rw [this] at h4; cases h4
 refine ⟨fun j hj => (mvG_zero (h j hj)).2.1.1, fun j hj => (mvG_zero (h j hj)).2.1.2, fun j hj => ?_, hd⟩
 rw [lkP_at hd l.length (Nat.le_refl _) hj]
 exact ⟨(mvG_zero (h j hj)).1, (mvG_zero (h j hj)).2.2.1⟩
def flM (l : List Mov) (i : Nat) : List Mov := (l.take i).filter mvB
theorem flM_len {l : List Mov} {i : Nat} : (flM l i).length ≤ l.length := by
 have h1 := List.length_filter_le mvB (l.take i)
 have h2 : (l.take i).length ≤ l.length := by rw [List.length_take]; omega
 unfold flM; omega
theorem flM_all {l : List Mov} : flM l l.length = l.filter mvB := by unfold flM; rw [List.take_length]
theorem take_nxt {l : List Mov} {i : Nat} (h : i < l.length) : l.take (i + 1) = l.take i ++ [l.getD i default] := by
 rw [List.take_add_one, List.getD_eq_getElem?_getD, List.getElem?_eq_getElem h]; rfl
theorem flM_yes {l : List Mov} {i : Nat} (h : i < l.length) (hm : mvB (l.getD i default) = true) : flM l (i + 1) = flM l i ++ [l.getD i default] := by
 unfold flM; rw [take_nxt h, List.filter_append, List.filter_cons, if_pos hm]; rfl
theorem flM_no {l : List Mov} {i : Nat} (h : i < l.length) (hm : mvB (l.getD i default) = false) : flM l (i + 1) = flM l i := by
 unfold flM; rw [take_nxt h, List.filter_append, List.filter_cons, if_neg (by rw [hm]; simp)]; simp
theorem mvB_eq (x : Mov) : (!((x.From.Kind == x.To.Kind) && ((x.From.Class == x.To.Class) && ((x.From.N == x.To.N) && true)))) = mvB x := by
 rw [plc_eq]; unfold mvB
 by_cases h : x.From = x.To <;> simp [h]
@[reducible] def ordV (m : Mch) (l : List Mov) (cs : List Int) (fr : Int) : AV := if mvF m l cs fr = 0 then mvR (outF m fr.toNat (lkP (prL l cs l.length)) (l.filter mvB)) else .val (.slice none 0 0)
theorem ord_no {m : Mch} {l : List Mov} {cs : List Int} {fr e : Int} (h : mvF m l cs fr = e) (he : e ≠ 0) : tupOf [.val (.slice none 0 0), .i64 e] = .tup [ordV m l cs fr, .i64 (mvF m l cs fr)] := by
 unfold ordV
 rw [h, if_neg he]; rfl
theorem ord_pure {m : Mch} {l : List Mov} {cs : List Int} {fr : Int} : (AV.tup [ordV m l cs fr, AV.i64 (mvF m l cs fr)]).pureB = true := by
 unfold ordV
 split <;> rfl
set_option maxRecDepth 8000 in
set_option maxHeartbeats 16000000 in
theorem c_Order (m : Mch) (l : List Mov) (cs : List Int) (fr : Int) (hl : l.length ≤ maxLen) : ACallIs B.P 11 [m.av, roL 6 Mov.cells l, ints cs, .i64 fr] (.tup [ordV m l cs fr, .i64 (mvF m l cs fr)]) := by
 refine ACallIs.enter B _ _ Try.func11 rfl rfl Try.ntmps11 Try.results11 rfl fun hreal => ?_
 clear hreal
 repeat (first|apply zq|apply zb|apply zk)
 apply zr
 intro _
 refine AWp.freezeObj 4 rfl rfl ?_
 repeat (first|apply zq|apply zb|apply zk)
 apply zr
 intro _
 repeat (first|apply zq|apply zb|apply zk)
 refine AWp.loop (fun k : Nat => ⟨[(1, roL 6 Mov.cells l), (2, ints cs), (3, .i64 fr), (4, .ptr m.cells), (19, .agg [.i64 m.r0, .i64 m.r1]), (20, .i64 k)], []⟩) (fun k => k ≤ 2 ∧ (1 ≤ k → inB m.r0 2 10 = true) ∧ (2 ≤ k → inB m.r1 2 10 = true)) (fun k => 2 - k) 0 (by simp) ?_ ?_
 ·repeat' (first|exact rfl|exact trivial|refine And.intro ?_ ?_)
 intro k hk
 obtain rfl | rfl | rfl : k = 0 ∨ k = 1 ∨ k = 2 := by omega
 ·repeat (first|apply zq|apply zb|apply zk)
  apply zr
  intro _
  repeat (first|apply zq|apply zb|apply zk)
  refine AWp.cond (And.intro (fun h0 => ?_) (fun h0 => ?_))
  ·repeat (first|apply zq|apply zb|apply zk)
   apply zr
   repeat' (first|exact trivial|refine And.intro ?_ ?_|fail)
   all_goals first|exact fun _ => ⟨by decide, by decide, by simp⟩|exact fun _ => by decide|exact Int.le_refl 0|decide|skip
   intro _
   repeat (first|apply zq|apply zb|apply zk)
   apply zr
   repeat' (first|exact trivial|refine And.intro ?_ ?_|fail)
   all_goals first|exact fun hh => hh|exact gT|exact gF|exact gN|exact gA|(intro hh; simpa using hh)|skip
   intro _
   repeat (first|apply zq|apply zb|apply zk)
   refine AWp.cond (And.intro (fun h1 => ?_) (fun h1 => ?_))
   ·have h1 : (bif decide (m.r0 < 2) then true else decide (m.r0 > 10)) = true := h1
    have hb : inB m.r0 2 10 = false := by
     unfold inB
     by_cases c : m.r0 < 2
     ·simp; omega
     ·rw [decide_eq_false c] at h1
      have : m.r0 > 10 := of_decide_eq_true h1
      simp; omega
    repeat (first|apply zq|apply zb|apply zk)
    apply zr
    intro _
    refine AWp.ret ⟨Or.inl rfl, ord_pure, ?_⟩
    intro _
    have hv : mvF m l cs fr = 2 := by unfold mvF machF; simp [hb]
    exact ord_no hv (by decide)
   have h1 : (bif decide (m.r0 < 2) then true else decide (m.r0 > 10)) = false := h1
   have hb : inB m.r0 2 10 = true := by
    unfold inB
    by_cases c : m.r0 < 2
    ·rw [decide_eq_true c] at h1; cases h1
    ·rw [decide_eq_false c] at h1
     have : ¬ m.r0 > 10 := of_decide_eq_false h1
     simp; omega
   refine AWp.skip ?_
   repeat (first|apply zq|apply zb|apply zk)
   apply zr
   intro _
   refine round_end 1 ⟨by omega, fun _ => hb, fun h => absurd h (by decide)⟩ ?_ (by omega)
   repeat' (first|exact rfl|exact trivial|refine And.intro ?_ ?_)
  ·exact absurd h0 (by decide)
 ·repeat (first|apply zq|apply zb|apply zk)
  apply zr
  intro _
  repeat (first|apply zq|apply zb|apply zk)
  refine AWp.cond (And.intro (fun h0 => ?_) (fun h0 => ?_))
  ·repeat (first|apply zq|apply zb|apply zk)
   apply zr
   repeat' (first|exact trivial|refine And.intro ?_ ?_|fail)
   all_goals first|exact fun _ => ⟨by decide, by decide, by simp⟩|exact fun _ => by decide|exact Int.le_refl 0|decide|skip
   intro _
   repeat (first|apply zq|apply zb|apply zk)
   apply zr
   repeat' (first|exact trivial|refine And.intro ?_ ?_|fail)
   all_goals first|exact fun hh => hh|exact gT|exact gF|exact gN|exact gA|(intro hh; simpa using hh)|skip
   intro _
   repeat (first|apply zq|apply zb|apply zk)
   refine AWp.cond (And.intro (fun h1 => ?_) (fun h1 => ?_))
   ·have h1 : (bif decide (m.r1 < 2) then true else decide (m.r1 > 10)) = true := h1
    have hb : inB m.r1 2 10 = false := by
     unfold inB
     by_cases c : m.r1 < 2
     ·simp; omega
     ·rw [decide_eq_false c] at h1
      have : m.r1 > 10 := of_decide_eq_true h1
      simp; omega
    repeat (first|apply zq|apply zb|apply zk)
    apply zr
    intro _
    refine AWp.ret ⟨Or.inl rfl, ord_pure, ?_⟩
    intro _
    have hv : mvF m l cs fr = 2 := by unfold mvF machF; simp [hb]
    exact ord_no hv (by decide)
   have h1 : (bif decide (m.r1 < 2) then true else decide (m.r1 > 10)) = false := h1
   have hb : inB m.r1 2 10 = true := by
    unfold inB
    by_cases c : m.r1 < 2
    ·rw [decide_eq_true c] at h1; cases h1
    ·rw [decide_eq_false c] at h1
     have : ¬ m.r1 > 10 := of_decide_eq_false h1
     simp; omega
   refine AWp.skip ?_
   repeat (first|apply zq|apply zb|apply zk)
   apply zr
   intro _
   refine round_end 2 ⟨by omega, fun _ => hk.2.1 (Nat.le_refl _), fun _ => hb⟩ ?_ (by omega)
   repeat' (first|exact rfl|exact trivial|refine And.intro ?_ ?_)
  ·exact absurd h0 (by decide)
 repeat (first|apply zq|apply zb|apply zk)
 apply zr
 intro _
 repeat (first|apply zq|apply zb|apply zk)
 refine AWp.cond (And.intro (fun h0 => ?_) (fun h0 => ?_))
 ·exact absurd h0 (by decide)
 apply ze
 have hm : machF m = 0 := by unfold machF; rw [hk.2.1 (by omega), hk.2.2 (Nat.le_refl _)]; rfl
 repeat (first|apply zq|apply zb|apply zk)
 apply zr
 repeat' (first|exact trivial|refine And.intro ?_ ?_|fail)
 all_goals first|exact fun hh => hh|exact gT|exact gF|exact gN|exact gA|(intro hh; simpa using hh)|skip
 intro _
 repeat (first|apply zq|apply zb|apply zk)
 refine AWp.cond (And.intro (fun h2 => ?_) (fun h2 => ?_))
 ·have h2 : (bif (bif decide (fr < 0) then true else decide (fr ≥ 1000)) then true else decide ((l.length : Int) > 5000)) = true := h2
  have hb : (fr < 0 ∨ 1000 ≤ fr) ∨ 5000 < l.length := by
   by_cases c1 : fr < 0
   ·exact .inl (.inl c1)
   ·by_cases c2 : fr ≥ 1000
    ·exact .inl (.inr c2)
    ·rw [decide_eq_false c1, decide_eq_false c2] at h2
     have : (l.length : Int) > 5000 := of_decide_eq_true h2
     exact .inr (by omega)
  repeat (first|apply zq|apply zb|apply zk)
  apply zr
  intro _
  refine AWp.ret ⟨Or.inl rfl, ord_pure, ?_⟩
  intro _
  have hv : mvF m l cs fr = 1 := by unfold mvF; rw [if_neg (fun h => h hm), if_pos hb]
  exact ord_no hv (by decide)
 have h2 : (bif (bif decide (fr < 0) then true else decide (fr ≥ 1000)) then true else decide ((l.length : Int) > 5000)) = false := h2
 have hb : ¬ ((fr < 0 ∨ 1000 ≤ fr) ∨ 5000 < l.length) := fun hb => by
  by_cases c1 : fr < 0
  ·rw [decide_eq_true c1] at h2; cases h2
  ·by_cases c2 : fr ≥ 1000
   ·rw [decide_eq_false c1, decide_eq_true c2] at h2; cases h2
   ·rw [decide_eq_false c1, decide_eq_false c2] at h2
    have : ¬ (l.length : Int) > 5000 := of_decide_eq_false h2
    omega
 refine AWp.skip ?_
 repeat (first|apply zq|apply zb|apply zk)
 apply zr
 intro _
 repeat (first|apply zq|apply zb|apply zk)
 refine AWp.cond (And.intro (fun h3 => ?_) (fun h3 => ?_))
 ·have h3 : ((cs.length : Int) != (l.length : Int)) = true := h3
  have hc : cs.length ≠ l.length := fun e => by rw [e] at h3; simp at h3
  repeat (first|apply zq|apply zb|apply zk)
  apply zr
  intro _
  refine AWp.ret ⟨Or.inl rfl, ord_pure, ?_⟩
  intro _
  have hv : mvF m l cs fr = 4 := by unfold mvF; rw [if_neg (fun h => h hm), if_neg hb, if_pos hc]
  exact ord_no hv (by decide)
 have h3 : ((cs.length : Int) != (l.length : Int)) = false := h3
 have hc : cs.length = l.length := by
  have := h3
  simp only [bne_eq_false_iff_eq] at this
  omega
 have hv0 : mvF m l cs fr = firstF (mvG m l cs fr) l.length := by unfold mvF; rw [if_neg (fun h => h hm), if_neg hb, if_neg (fun h => h hc)]
 have hl5 : l.length ≤ 5000 := by omega
 refine AWp.skip ?_
 obtain ⟨F, rfl⟩ := Int.eq_ofNat_of_zero_le (show 0 ≤ fr by omega)
 repeat (first|apply zq|apply zb|apply zk)
 apply zr
 intro _
 refine AWp.via (newρ 80) ⟨[(1, roL 6 Mov.cells l), (2, ints cs), (3, .i64 (F : Nat)), (4, .ptr m.cells), (12, .obj 51 0)], [(51, .cells [.i64 m.r0, .i64 m.r1, .sl 80 0, .mp 47, .i64 2, .i64 0, .i64 (F : Nat), .val (.slice none 0 0)]), (47, .mp (esL [])), (80, rwM 0 [])]⟩ ?_ ?_
 ·refine ⟨?_, ?_, newρ_inj 80 _, newρ_old (by decide) _⟩
  ·repeat' (first|exact rfl|exact trivial|refine And.intro ?_ ?_)
  ·refine And.intro (And.intro ⟨_, ⟨_, rfl, rfl, trivial⟩, rfl⟩ ?_) (And.intro (And.intro ⟨_, ⟨_, rfl, rfl, trivial⟩, rfl⟩ trivial) (And.intro (And.intro ⟨_, _, _, rfl⟩ trivial) trivial))
   repeat' (first|exact rfl|exact trivial|refine And.intro ?_ ?_)
 refine AWp.via (newρ 81) ⟨[(1, roL 6 Mov.cells l), (2, ints cs), (3, .i64 (F : Nat)), (4, .ptr m.cells), (12, .obj 51 0)], [(51, .cells [.i64 m.r0, .i64 m.r1, .sl 80 0, .mp 47, .i64 2, .i64 0, .i64 (F : Nat), .sl 81 0]), (47, .mp (esL [])), (80, rwM 0 []), (81, rwM 0 [])]⟩ ?_ ?_
 ·refine ⟨?_, ?_, newρ_inj 81 _, newρ_old (by decide) _⟩
  ·repeat' (first|exact rfl|exact trivial|refine And.intro ?_ ?_)
  ·refine And.intro (And.intro ⟨_, ⟨_, rfl, rfl, trivial⟩, rfl⟩ ?_) (And.intro (And.intro ⟨_, ⟨_, rfl, rfl, trivial⟩, rfl⟩ trivial) (And.intro (And.intro ⟨_, ⟨_, rfl, rfl, trivial⟩, Or.inl ⟨_, rfl, fun i hi => rfl⟩⟩ trivial) (And.intro (And.intro ⟨_, _, _, rfl⟩ trivial) trivial)))
   repeat' (first|exact rfl|exact trivial|refine And.intro ?_ ?_)
 repeat (first|apply zq|apply zb|apply zk)
 apply zr
 intro _
 repeat (first|apply zq|apply zb|apply zk)
 refine AWp.loop (fun i : Nat => ⟨[(1, roL 6 Mov.cells l), (2, ints cs), (3, .i64 (F : Nat)), (4, .ptr m.cells), (12, .obj 51 0), (52, roL 6 Mov.cells l), (53, .i64 l.length), (54, .i64 i)], [(51, .cells [.i64 m.r0, .i64 m.r1, .sl 80 (flM l i).length, .mp 47, .i64 2, .i64 0, .i64 (F : Nat), .sl 81 0]), (47, .mp (esL (prL l cs i))), (80, rwM (flM l i).length (flM l i)), (81, rwM 0 [])]⟩) (fun i => i ≤ l.length ∧ ∀ j, j < i → mvG m l cs F j = 0) (fun i => l.length - i) 0 ⟨Nat.zero_le _, fun j hj => absurd hj (Nat.not_lt_zero _)⟩ ?_ ?_
 ·refine And.intro ?_ (And.intro rfl (And.intro ?_ (And.intro rfl (And.intro trivial (And.intro ⟨_, _, rfl, rfl, fun i hi => rfl⟩ (And.intro trivial (And.intro ⟨_, _, rfl, rfl, fun i hi => rfl⟩ (And.intro trivial trivial))))))))
  all_goals repeat' (first|exact rfl|exact trivial|refine And.intro ?_ ?_)
 rintro i ⟨hi0, hg⟩
 repeat (first|apply zq|apply zb|apply zk)
 apply zr
 intro _
 repeat (first|apply zq|apply zb|apply zk)
 refine AWp.cond (And.intro (fun h4 => ?_) (fun h4 => ?_))
 ·have hi : i < l.length := Int.ofNat_lt.1 (of_decide_eq_true h4)
  have hic : i < cs.length := by omega
  have hfl := flM_len (l := l) (i := i)
  repeat (first|apply zq|apply zb|apply zk)
  apply zr
  repeat' (first|exact trivial|refine And.intro ?_ ?_|fail)
  all_goals first|exact fun _ => nn (hi)|skip
  intro _
  refine AWp.freezeObj 14 rfl rfl ?_
  repeat (first|apply zq|apply zb|apply zk)
  apply zr
  repeat' (first|exact trivial|refine And.intro ?_ ?_|fail)
  all_goals first|exact fun _ => nn (hic)|skip
  intro _
  repeat (first|apply zq|apply zb|apply zk)
  apply zr
  repeat' (first|exact trivial|refine And.intro ?_ ?_|fail)
  all_goals first|exact fun hh => hh|exact gT|exact gF|exact gN|exact gA|(intro hh; simpa using hh)|skip
  intro _
  repeat (first|apply zq|apply zb|apply zk)
  refine AWp.cond (And.intro (fun h5 => ?_) (fun h5 => ?_))
  ·have h5 : (bif decide ((cs.getD i default) < 0) then true else decide ((cs.getD i default) ≥ 2)) = true := h5
   rw [bif_or3] at h5
   repeat (first|apply zq|apply zb|apply zk)
   apply zr
   intro _
   refine AWp.ret ⟨Or.inl rfl, ord_pure, ?_⟩
   intro _
   exact ord_no (hv0.trans ((firstF_hit hi hg (by rw [mvG_1 h5]; decide)).trans (mvG_1 h5))) (by decide)
  have h5 : (bif decide ((cs.getD i default) < 0) then true else decide ((cs.getD i default) ≥ 2)) = false := h5
  rw [bif_or3] at h5
  repeat (first|apply zq|apply zb|apply zk)
  apply zr
  repeat' (first|exact trivial|refine And.intro ?_ ?_|refine CallX.pure (c_oend m F (l.getD i default).From) rfl rfl rfl ?_|refine CallK.intro (fun _ => c_oend m F (l.getD i default).To) ?_|fail)
  all_goals first|exact fun hh => hh|exact gT|exact gF|exact gN|exact gA|(intro hh; simpa using hh)|skip
  intro _
  repeat (first|apply zq|apply zb|apply zk)
  refine AWp.cond (And.intro (fun h6 => ?_) (fun h6 => ?_))
  ·have h6 : (bif !placeF m F (l.getD i default).From then true else !placeF m F (l.getD i default).To) = true := h6
   rw [bif_or3] at h6
   repeat (first|apply zq|apply zb|apply zk)
   apply zr
   intro _
   refine AWp.ret ⟨Or.inl rfl, ord_pure, ?_⟩
   intro _
   exact ord_no (hv0.trans ((firstF_hit hi hg (by rw [mvG_2 h5 h6]; decide)).trans (mvG_2 h5 h6))) (by decide)
  have h6 : (bif !placeF m F (l.getD i default).From then true else !placeF m F (l.getD i default).To) = false := h6
  rw [bif_or3] at h6
  repeat (first|apply zq|apply zb|apply zk)
  apply zr
  repeat' (first|exact trivial|refine And.intro ?_ ?_|fail)
  all_goals first|exact fun hh => hh|exact gT|exact gF|exact gN|exact gA|(intro hh; simpa using hh)|skip
  intro _
  repeat (first|apply zq|apply zb|apply zk)
  refine AWp.cond (And.intro (fun h7 => ?_) (fun h7 => ?_))
  ·have h7 : (bif (l.getD i default).From.Kind == 1 then (l.getD i default).From.Class != (cs.getD i default) else false) = true := h7
   rw [bif_and3] at h7
   refine AWp.skip ?_
   repeat (first|apply zq|apply zb|apply zk)
   refine AWp.cond (And.intro (fun h8 => ?_) (fun h8 => ?_))
   ·repeat (first|apply zq|apply zb|apply zk)
    apply zr
    intro _
    refine AWp.ret ⟨Or.inl rfl, ord_pure, ?_⟩
    intro _
    have hx := mvG_3 (m := m) h5 h6 (by rw [h7]; rfl)
    exact ord_no (hv0.trans ((firstF_hit hi hg (by rw [hx]; decide)).trans hx)) (by decide)
   ·have h8 : (bif (l.getD i default).From.Kind == 1 then (l.getD i default).From.Class != (cs.getD i default) else false) = false := h8
    rw [bif_and3, h7] at h8
    cases h8
  have h7 : (bif (l.getD i default).From.Kind == 1 then (l.getD i default).From.Class != (cs.getD i default) else false) = false := h7
  rw [bif_and3] at h7
  repeat (first|apply zq|apply zb|apply zk)
  apply zr
  repeat' (first|exact trivial|refine And.intro ?_ ?_|fail)
  all_goals first|exact fun hh => hh|exact gT|exact gF|exact gN|exact gA|(intro hh; simpa using hh)|skip
  intro _
  repeat (first|apply zq|apply zb|apply zk)
  refine AWp.cond (And.intro (fun h8 => ?_) (fun h8 => ?_))
  ·have h8 : (bif (l.getD i default).To.Kind == 1 then (l.getD i default).To.Class != (cs.getD i default) else false) = true := h8
   rw [bif_and3] at h8
   repeat (first|apply zq|apply zb|apply zk)
   apply zr
   intro _
   refine AWp.ret ⟨Or.inl rfl, ord_pure, ?_⟩
   intro _
   have hx := mvG_3 (m := m) h5 h6 (by rw [h7, h8]; rfl)
   exact ord_no (hv0.trans ((firstF_hit hi hg (by rw [hx]; decide)).trans hx)) (by decide)
  have h8 : (bif (l.getD i default).To.Kind == 1 then (l.getD i default).To.Class != (cs.getD i default) else false) = false := h8
  rw [bif_and3] at h8
  have hm4 := mvG_4 (m := m) (fr := F) h5 h6 (by rw [h7, h8]; rfl)
  refine AWp.skip ?_
  repeat (first|apply zq|apply zb|apply zk)
  refine AWp.quietU (.q 0 [] (.q 1 [51] (.q 2 [51] (.q 3 [51] (.q 4 [] (.q 5 [] (.k 6 [] (.q 7 [] (.q 8 [] (.q 9 [] (.q 10 [] (.q 11 [] .fin))))) .no))))))) [(0, []), (1, [51]), (2, [51]), (3, [51]), (4, []), (5, []), (7, []), (8, []), (9, []), (10, []), (11, [])] mixed (by kernel_rfl) ?_
  repeat' (first|exact trivial|refine And.intro ?_ ?_|refine Exists.intro (lkV true (prL l cs i) (l.getD i default).To) (And.intro (look_pl (prL l cs i) (l.getD i default).To true) (And.intro rfl ?_))|fail)
  intro _
  repeat (first|apply zq|apply zb|apply zk)
  apply zr
  intro _
  repeat (first|apply zq|apply zb|apply zk)
  refine AWp.cond (And.intro (fun h9 => ?_) (fun h9 => ?_))
  ·have h9 : hasP (prL l cs i) (l.getD i default).To = true := h9
   rw [if_pos h9] at hm4
   repeat (first|apply zq|apply zb|apply zk)
   apply zr
   intro _
   refine AWp.ret ⟨Or.inl rfl, ord_pure, ?_⟩
   intro _
   exact ord_no (hv0.trans ((firstF_hit hi hg (by rw [hm4]; decide)).trans hm4)) (by decide)
  have h9 : hasP (prL l cs i) (l.getD i default).To = false := h9
  rw [if_neg (by rw [h9]; simp)] at hm4
  have hg2 : ∀ j, j < i + 1 → mvG m l cs F j = 0 := fun j hj => by
   by_cases e : j = i
   ·rw [e]; exact hm4
   ·exact hg j (by omega)
  refine AWp.skip ?_
  repeat (first|apply zq|apply zb|apply zk)
  refine AWp.quietU (.q 0 [] (.q 1 [51] (.q 2 [51] (.q 3 [51] (.q 4 [] (.q 5 [] (.q 6 [] (.k 7 [] .fin .no)))))))) [(0, []), (1, [51]), (2, [51]), (3, [51]), (4, []), (5, []), (6, [])] mixed (by kernel_rfl) ?_
  repeat' (first|exact trivial|refine And.intro ?_ ?_|refine Exists.intro (esL (prL l cs (i + 1))) (And.intro (upd_pl _ _ _ h9) ?_)|fail)
  intro _
  repeat (first|apply zq|apply zb|apply zk)
  apply zr
  intro _
  repeat (first|apply zq|apply zb|apply zk)
  refine AWp.cond (And.intro (fun ha => ?_) (fun ha => ?_))
  ·have ha : mvB (l.getD i default) = true := by rw [← mvB_eq]; exact ha
   have hy := flM_yes hi ha
   have hyl : (flM l (i + 1)).length = (flM l i).length + 1 := by rw [hy, List.length_append]; rfl
   repeat (first|apply zq|apply zb|apply zk)
   refine AWp.quietU (.q 0 [] (.q 1 [] (.q 2 [47, 51, 81] (.q 3 [47, 51, 81] (.q 4 [47, 51, 81] (.q 5 [] (.k 6 [47, 51, 81] (.k 7 [] (.q 8 [47, 51, 81] (.q 9 [47, 51, 81] (.k 10 [] .fin .no))) .no) .no))))))) [(0, []), (1, []), (2, [47, 51, 81]), (3, [47, 51, 81]), (4, [47, 51, 81]), (5, []), (8, [47, 51, 81]), (9, [47, 51, 81])] mixed (by kernel_rfl) ?_
   repeat' (first|exact trivial|refine And.intro ?_ ?_|fail)
   all_goals first|exact rfl|exact fun _ _ => rfl|(intro j hj; rcases (show j = 0 by omega) with rfl; exact rfl)|omega|skip
   intro _
   refine AWp.rename 138 80 rfl rfl ?_
   repeat (first|apply zq|apply zb|apply zk)
   apply zr
   intro _
   refine round_end (i + 1) ⟨hi, hg2⟩ ?_ (by omega)
   refine And.intro ?_ (And.intro ?cc (And.intro ?_ (And.intro rfl (And.intro trivial (And.intro ⟨_, _, rfl, hyl.symm, fun j hj => (congrArg (fun L => Mov.cells (List.getD L j default)) hy).trans (snoc1 (show j < (flM l i ++ [_]).length from hy ▸ hj) rfl)⟩ (And.intro trivial (And.intro ⟨_, _, rfl, rfl, fun i hi => rfl⟩ (And.intro trivial trivial))))))))
   case cc =>
    rw [hyl]
    exact rfl
   all_goals repeat' (first|exact rfl|exact trivial|exact congrArg (fun z => some (AV.i64 z)) (wrap_succ hi hl)|refine And.intro ?_ ?_)
  have ha : mvB (l.getD i default) = false := by rw [← mvB_eq]; exact ha
  have hn := flM_no hi ha
  refine AWp.skip ?_
  repeat (first|apply zq|apply zb|apply zk)
  apply zr
  intro _
  refine round_end (i + 1) ⟨hi, hg2⟩ ?_ (by omega)
  rw [hn]
  refine And.intro ?_ (And.intro rfl (And.intro ?_ (And.intro rfl (And.intro trivial (And.intro ⟨_, _, rfl, rfl, fun i hi => rfl⟩ (And.intro trivial (And.intro ⟨_, _, rfl, rfl, fun i hi => rfl⟩ (And.intro trivial trivial))))))))
  all_goals repeat' (first|exact rfl|exact trivial|exact congrArg (fun z => some (AV.i64 z)) (wrap_succ hi hl)|refine And.intro ?_ ?_)
 have h4 : ¬ (i : Int) < l.length := of_decide_eq_false h4
 obtain rfl : i = l.length := by omega
 have hv1 : mvF m l cs F = 0 := hv0.trans (firstF_none hg)
 have I0 : DoI m F l.length (fun _ => 0) (wF l (fun _ => 0) l.length) (lkP (prL l cs l.length)) (flM l l.length) [] := flM_all.symm ▸ DoI.start (mvsOk_of hg) hm (fun _ => 0)
 apply ze
 repeat (first|apply zq|apply zb|apply zk)
 apply zr
 repeat' (first|exact trivial|refine And.intro ?_ ?_|refine CallX.lend (m_do m hm F (flM l l.length).length l.length hl5 (Nat.le_trans flM_len hl) (flM l l.length) (prL l cs l.length) _ _ I0 (Nat.le_refl _)) [(1001, 51), (1002, 80), (1003, 47), (1004, 81), (61, 82)] rfl (And.intro rfl (And.intro rfl (And.intro rfl (And.intro rfl trivial)))) rfl ?_|fail)
 intro _
 repeat (first|apply zq|apply zb|apply zk)
 apply zr
 intro _
 refine AWp.freeze 82 (fun i => Mov.cells ((outF m F (lkP (prL l cs l.length)) (flM l l.length)).getD i default)) rfl (fun i hi => rfl) ?_
 refine AWp.ret ⟨Or.inl rfl, ord_pure, ?_⟩
 intro _
 have hov : ordV m l cs F = mvR (outF m F (lkP (prL l cs l.length)) (flM l l.length)) := by
  unfold ordV; rw [if_pos hv1, flM_all]; rfl
 rw [hov, hv1]
 rfl
end Go.Proofs.Ytjjgjflbhpoloaa
