/- Contracts of order's end, free, scratch and put, and of slices.IndexFunc and ContainsFunc at their closures. Condition: a machine that may be, where said. -/
import Derived.Test.YtjjgjflbhpoloaaOrdC
import Derived.Test.YtjjgjflbhpoloaaQuu
set_option linter.unusedVariables false
set_option linter.unusedSimpArgs false
namespace Go.Proofs.Ytjjgjflbhpoloaa
open Go Go.Abs Go.RowKit
set_option maxHeartbeats 600000 in
theorem c_oend (m : Mch) (fr : Int) (p : Plc) : ACallIs B.P 32 [m.av, p.av, .i64 fr] (.bool (placeF m fr p)) := by
 refine ACallIs.enter B _ _ Try.func32 rfl rfl Try.ntmps32 Try.results32 rfl fun hreal => ?_
 clear hreal
 repeat (first|apply zq|apply zb|apply zk)
 apply zr
 intro _
 refine AWp.freezeObj 3 rfl rfl ?_
 refine AWp.freezeObj 4 rfl rfl ?_
 repeat' (first
  | apply zq | apply zb | apply zk | apply ze
  | apply zr | refine AWp.draw mixed (by kernel_rfl) ?_
  | refine AWp.cond (And.intro (fun h => ?_) (fun h => ?_))
  | refine AWp.ret ⟨Or.inl rfl, rfl, ?_⟩
  | exact trivial | refine And.intro ?_ ?_ | intro _)
 all_goals first|assumption|((try simp only [tupOf, bif_if, placeF, regF] at *); grind)
theorem plc_eq (p q : Plc) : ((p.Kind == q.Kind) && ((p.Class == q.Class) && ((p.N == q.N) && true))) = (p == q) := by
 obtain ⟨a, b, c⟩ := p
 obtain ⟨a', b', c'⟩ := q
 rw [Bool.eq_iff_iff]
 simp only [Bool.and_eq_true, beq_iff_eq, Plc.mk.injEq, and_true]
theorem c_y (x y : Mov) : ACallIs B.P 119 [y.av, .ptr (Mov.cells x)] (.bool (y.From == x.To)) := by
 refine ACallIs.enter B _ _ Try.func119 rfl rfl Try.ntmps119 Try.results119 rfl fun hreal => ?_
 clear hreal
 repeat (first|apply zq|apply zb|apply zk)
 apply zr
 intro _
 refine AWp.freezeObj 2 rfl rfl ?_
 repeat (first|apply zq|apply zb|apply zk)
 apply zr
 intro _
 refine AWp.ret ⟨Or.inl rfl, rfl, ?_⟩
 intro _
 exact tupB (plc_eq y.From x.To)
def fiI (p : Mov → Bool) (L : List Mov) : Int := if L.findIdx p < L.length then (L.findIdx p : Nat) else -1
theorem fiI_hit {p : Mov → Bool} {L : List Mov} {i : Nat} (hi : i < L.length) (hn : ∀ j, j < i → p (L.getD j default) = false) (h : p (L.getD i default) = true) : fiI p L = (i : Nat) := by
 have e : L.findIdx p = i := (List.findIdx_eq hi).2 ⟨by rw [List.getD_eq_getElem?_getD, List.getElem?_eq_getElem hi] at h; exact h, fun j hj => by
  have := hn j hj
  rw [List.getD_eq_getElem?_getD, List.getElem?_eq_getElem (by omega)] at this; exact this⟩
 unfold fiI
 rw [e, if_pos hi]
theorem fiI_none {p : Mov → Bool} {L : List Mov} (hn : ∀ j, j < L.length → p (L.getD j default) = false) : fiI p L = -1 := by
 unfold fiI
 rw [if_neg]
 intro h
 have h1 := List.findIdx_getElem (w := h)
 have := hn _ h
 rw [List.getD_eq_getElem?_getD, List.getElem?_eq_getElem h] at this
 rw [show (some L[List.findIdx p L]).getD default = L[List.findIdx p L] from rfl, h1] at this
 cases this
theorem fiI_ge {p : Mov → Bool} {L : List Mov} : decide (fiI p L ≥ 0) = L.any p := by
 rw [Bool.eq_iff_iff, decide_eq_true_eq, List.any_eq_true, ← List.findIdx_lt_length]
 unfold fiI
 split <;> omega
@[reducible] def mvR (L : List Mov) : AV := .ro 6 L.length (fun i => Mov.cells (L.getD i default))
set_option maxHeartbeats 2000000 in
theorem c_IdxY (L : List Mov) (x : Mov) (hL : L.length ≤ maxLen) : ACallIs B.P 116 [mvR L, .fn 119 [.ptr (Mov.cells x)]] (.i64 (fiI (fun y => y.From == x.To) L)) := by
 refine ACallIs.enter B _ _ Try.func116 rfl rfl Try.ntmps116 Try.results116 rfl fun hreal => ?_
 clear hreal
 repeat (first|apply zq|apply zb|apply zk)
 apply zr
 intro _
 repeat (first|apply zq|apply zb|apply zk)
 apply zr
 intro _
 repeat (first|apply zq|apply zb|apply zk)
 refine AWp.loop (fun i : Nat => ⟨[(0, mvR L), (1, .fn 119 [.ptr (Mov.cells x)]), (7, .i64 L.length), (8, .i64 i)], []⟩) (fun i => i ≤ L.length ∧ ∀ j, j < i → ((L.getD j default).From == x.To) = false) (fun i => L.length - i) 0 ⟨Nat.zero_le _, fun j hj => absurd hj (Nat.not_lt_zero _)⟩ ?_ ?_
 ·repeat' (first|exact rfl|exact trivial|refine And.intro ?_ ?_)
 rintro i ⟨hi, hn⟩
 repeat (first|apply zq|apply zb|apply zk)
 apply zr
 intro _
 repeat (first|apply zq|apply zb|apply zk)
 refine AWp.cond (And.intro (fun h1 => ?_) (fun h1 => ?_))
 ·have hi' : i < L.length := Int.ofNat_lt.1 (of_decide_eq_true h1)
  repeat (first|apply zq|apply zb|apply zk)
  apply zr
  intro _
  repeat (first|apply zq|apply zb|apply zk)
  apply zr
  refine And.intro (fun _ => nn (hi')) ?_
  refine CallX.pure (c_y x (L.getD i default)) rfl rfl rfl ?_
  intro _
  repeat (first|apply zq|apply zb|apply zk)
  refine AWp.cond (And.intro (fun h2 => ?_) (fun h2 => ?_))
  ·repeat (first|apply zq|apply zb|apply zk)
   apply zr
   intro _
   refine AWp.ret ⟨Or.inl rfl, rfl, ?_⟩
   intro _
   exact tupI (fiI_hit (p := fun y => y.From == x.To) hi' hn h2).symm
  refine AWp.skip ?_
  repeat (first|apply zq|apply zb|apply zk)
  apply zr
  intro _
  refine Exists.intro (i + 1) (And.intro ⟨hi', fun j hj => ?_⟩ (And.intro ?_ (by omega)))
  ·by_cases e : j = i
   ·subst e; exact h2
   ·exact hn j (by omega)
  ·repeat' (first|exact rfl|exact trivial|exact congrArg (fun z => some (AV.i64 z)) (wrap_succ hi' hL)|refine And.intro ?_ ?_)
 have hi3 : ¬ (i : Int) < L.length := of_decide_eq_false h1
 obtain rfl : i = L.length := by omega
 apply ze
 repeat (first|apply zq|apply zb|apply zk)
 apply zr
 intro _
 refine AWp.ret ⟨Or.inl rfl, rfl, ?_⟩
 intro _
 exact tupI (fiI_none (p := fun y => y.From == x.To) hn).symm
theorem c_ConY (L : List Mov) (x : Mov) (hL : L.length ≤ maxLen) : ACallIs B.P 118 [mvR L, .fn 119 [.ptr (Mov.cells x)]] (.bool (L.any fun y => y.From == x.To)) := by
 refine ACallIs.enter B _ _ Try.func118 rfl rfl Try.ntmps118 Try.results118 rfl fun hreal => ?_
 clear hreal
 repeat (first|apply zq|apply zb|apply zk)
 apply zr
 intro _
 repeat (first|apply zq|apply zb|apply zk)
 apply zr
 refine CallX.pure (c_IdxY L x hL) rfl rfl rfl ?_
 intro _
 refine AWp.ret ⟨Or.inl rfl, rfl, ?_⟩
 intro _
 exact tupB fiI_ge
/-! ### The job -/
@[reducible] def rwM (N : Nat) (L : List Mov) : HO := .row 36 6 N (fun i => Mov.cells (L.getD i default))
@[reducible] def jbC (m : Mch) (fr k : Nat) (o : Nm) (n : Nat) : HO := .cells [.i64 m.r0, .i64 m.r1, .sl 1002 k, .mp 1003, .i64 2, .i64 0, .i64 fr, .sl o n]
@[reducible] def jbH (m : Mch) (fr N : Nat) (L : List Mov) (A : List (Plc × Int)) (o : Nat) (out : List Mov) : List (Nat × HO) := [(1001, jbC m fr L.length ⟨o, []⟩ out.length), (1002, rwM N L), (1003, .mp (esL A)), (o, rwM out.length out)]
section
variable (m : Mch) (fr N : Nat) (L : List Mov) (A : List (Plc × Int)) (out : List Mov)
set_option maxHeartbeats 2000000 in
theorem m_x (hL : L.length ≤ maxLen) (x : Mov) : ACallM B.P 117 ⟨[x.av, .obj 1005 0], jbH m fr N L A 1004 out ++ [(1005, .cells [.obj 1001 0])], .bool (frB L x), jbH m fr N L A 1004 out ++ [(1005, .cells [.obj 1001 0])]⟩ := by
 refine ACallM.enter B _ _ Try.func117 rfl rfl Try.ntmps117 Try.results117 rfl ?_ fun hreal => ?_
 ·refine And.intro ?_ (And.intro ?_ ?_)
  all_goals repeat' (first|exact rfl|exact trivial|refine And.intro ?_ ?_)
 clear hreal
 repeat (first|apply zq|apply zb|apply zk)
 apply zr
 intro _
 refine AWp.freezeObj 2 rfl rfl ?_
 repeat (first|apply zq|apply zb|apply zk)
 apply zr
 refine CallX.pure (c_ConY L x hL) rfl rfl rfl ?_
 intro _
 refine AWp.ret ⟨Or.inl rfl, ?_⟩
 intro _
 refine And.intro rfl (And.intro trivial (And.intro rfl (And.intro ?_ (And.intro ⟨_, _, rfl, rfl, fun i hi => rfl⟩ (And.intro trivial (And.intro rfl (And.intro trivial (And.intro ⟨_, _, rfl, rfl, fun i hi => rfl⟩ (And.intro trivial (And.intro rfl (And.intro (And.intro rfl trivial) trivial)))))))))))
 repeat' (first|exact rfl|exact trivial|refine And.intro ?_ ?_)
set_option maxHeartbeats 2000000 in
theorem m_IdxX (hL : L.length ≤ maxLen) (hN : L.length ≤ N) : ACallM B.P 116 ⟨[.sl 1002 L.length, .fn 117 [.obj 1005 0]], jbH m fr N L A 1004 out ++ [(1005, .cells [.obj 1001 0])], .i64 (fiI (frB L) L), jbH m fr N L A 1004 out ++ [(1005, .cells [.obj 1001 0])]⟩ := by
 refine ACallM.enter B _ _ Try.func116 rfl rfl Try.ntmps116 Try.results116 rfl ?_ fun hreal => ?_
 ·refine And.intro ?_ (And.intro ?_ ?_)
  all_goals repeat' (first|exact rfl|exact trivial|refine And.intro ?_ ?_)
 clear hreal
 repeat (first|apply zq|apply zb|apply zk)
 apply zr
 intro _
 repeat (first|apply zq|apply zb|apply zk)
 apply zr
 intro _
 repeat (first|apply zq|apply zb|apply zk)
 refine AWp.loop (fun i : Nat => ⟨[(0, .sl 1002 L.length), (1, .fn 117 [.obj 1005 0]), (7, .i64 L.length), (8, .i64 i)], jbH m fr N L A 1004 out ++ [(1005, .cells [.obj 1001 0])]⟩) (fun i => i ≤ L.length ∧ ∀ j, j < i → frB L (L.getD j default) = false) (fun i => L.length - i) 0 ⟨Nat.zero_le _, fun j hj => absurd hj (Nat.not_lt_zero _)⟩ ?_ ?_
 ·refine And.intro ?_ (And.intro rfl (And.intro ?_ (And.intro ⟨_, _, rfl, rfl, fun i hi => rfl⟩ (And.intro trivial (And.intro rfl (And.intro trivial (And.intro ⟨_, _, rfl, rfl, fun i hi => rfl⟩ (And.intro trivial (And.intro rfl (And.intro (And.intro rfl trivial) trivial))))))))))
  all_goals repeat' (first|exact rfl|exact trivial|refine And.intro ?_ ?_)
 rintro i ⟨hi, hn⟩
 repeat (first|apply zq|apply zb|apply zk)
 apply zr
 intro _
 repeat (first|apply zq|apply zb|apply zk)
 refine AWp.cond (And.intro (fun h1 => ?_) (fun h1 => ?_))
 ·have hi' : i < L.length := Int.ofNat_lt.1 (of_decide_eq_true h1)
  repeat (first|apply zq|apply zb|apply zk)
  apply zr
  intro _
  repeat (first|apply zq|apply zb|apply zk)
  apply zr
  repeat' (first|exact trivial|refine And.intro ?_ ?_|refine CallX.lend (m_x m fr N L A out hL (L.getD i default)) [(1001, 1001), (1002, 1002), (1003, 1003), (1004, 1004), (1005, 1005)] rfl (And.intro rfl (And.intro rfl (And.intro rfl (And.intro rfl (And.intro rfl trivial))))) rfl ?_|fail)
  all_goals first|exact fun _ => nn (hi')|exact fun _ => Nat.lt_of_lt_of_le hi' hN|exact Nat.lt_of_lt_of_le hi' hN|skip
  intro _
  repeat (first|apply zq|apply zb|apply zk)
  refine AWp.cond (And.intro (fun h2 => ?_) (fun h2 => ?_))
  ·repeat (first|apply zq|apply zb|apply zk)
   apply zr
   intro _
   refine AWp.ret ⟨Or.inl rfl, ?_⟩
   intro _
   refine And.intro (tupI (fiI_hit (p := frB L) hi' hn h2).symm) (And.intro trivial (And.intro rfl (And.intro ?_ (And.intro ⟨_, _, rfl, rfl, fun i hi => rfl⟩ (And.intro trivial (And.intro rfl (And.intro trivial (And.intro ⟨_, _, rfl, rfl, fun i hi => rfl⟩ (And.intro trivial (And.intro rfl (And.intro (And.intro rfl trivial) trivial)))))))))))
   repeat' (first|exact rfl|exact trivial|refine And.intro ?_ ?_)
  refine AWp.skip ?_
  repeat (first|apply zq|apply zb|apply zk)
  apply zr
  intro _
  refine Exists.intro (i + 1) (And.intro ⟨hi', fun j hj => ?_⟩ (And.intro ?_ (by omega)))
  ·by_cases e : j = i
   ·subst e; exact h2
   ·exact hn j (by omega)
  ·refine And.intro ?_ (And.intro rfl (And.intro ?_ (And.intro ⟨_, _, rfl, rfl, fun i hi => rfl⟩ (And.intro trivial (And.intro rfl (And.intro trivial (And.intro ⟨_, _, rfl, rfl, fun i hi => rfl⟩ (And.intro trivial (And.intro rfl (And.intro (And.intro rfl trivial) trivial))))))))))
   all_goals repeat' (first|exact rfl|exact trivial|exact congrArg (fun z => some (AV.i64 z)) (wrap_succ hi' hL)|refine And.intro ?_ ?_)
 have hi3 : ¬ (i : Int) < L.length := of_decide_eq_false h1
 obtain rfl : i = L.length := by omega
 apply ze
 repeat (first|apply zq|apply zb|apply zk)
 apply zr
 intro _
 refine AWp.ret ⟨Or.inl rfl, ?_⟩
 intro _
 refine And.intro (tupI (fiI_none (p := frB L) hn).symm) (And.intro trivial (And.intro rfl (And.intro ?_ (And.intro ⟨_, _, rfl, rfl, fun i hi => rfl⟩ (And.intro trivial (And.intro rfl (And.intro trivial (And.intro ⟨_, _, rfl, rfl, fun i hi => rfl⟩ (And.intro trivial (And.intro rfl (And.intro (And.intro rfl trivial) trivial)))))))))))
 repeat' (first|exact rfl|exact trivial|refine And.intro ?_ ?_)
set_option maxHeartbeats 2000000 in
theorem m_free (hL : L.length ≤ maxLen) (hN : L.length ≤ N) : ACallM B.P 70 ⟨[.obj 1001 0], jbH m fr N L A 1004 out, .i64 (fiI (frB L) L), jbH m fr N L A 1004 out⟩ := by
 refine ACallM.enter B _ _ Try.func70 rfl rfl Try.ntmps70 Try.results70 rfl ?_ fun hreal => ?_
 ·refine And.intro ?_ (And.intro ?_ ?_)
  all_goals repeat' (first|exact rfl|exact trivial|refine And.intro ?_ ?_)
 clear hreal
 repeat (first|apply zq|apply zb|apply zk)
 apply zr
 intro _
 repeat (first|apply zq|apply zb|apply zk)
 apply zr
 refine CallX.lend (m_IdxX m fr N L A out hL hN) [(1001, 1001), (1002, 1002), (1003, 1003), (1004, 1004), (1005, 1)] rfl (And.intro rfl (And.intro rfl (And.intro rfl (And.intro rfl (And.intro rfl trivial))))) rfl ?_
 intro _
 refine AWp.ret ⟨Or.inl rfl, ?_⟩
 intro _
 refine And.intro rfl (And.intro trivial (And.intro rfl (And.intro ?_ (And.intro ⟨_, _, rfl, rfl, fun i hi => rfl⟩ (And.intro trivial (And.intro rfl (And.intro trivial (And.intro ⟨_, _, rfl, rfl, fun i hi => rfl⟩ (And.intro trivial (trivial))))))))))
 repeat' (first|exact rfl|exact trivial|refine And.intro ?_ ?_)
set_option maxHeartbeats 2000000 in
theorem m_scr (c : Int) (hc : 0 ≤ c ∧ c < 2) : ACallM B.P 120 ⟨[.ptr [.i64 m.r0, .i64 m.r1, .any, .any, .i64 2, .i64 0, .i64 fr, .any], .i64 c], [], (scP m c).av, []⟩ := by
 refine ACallM.enter B _ _ Try.func120 rfl rfl Try.ntmps120 Try.results120 rfl ?_ fun hreal => ?_
 ·exact And.intro trivial (And.intro (And.intro trivial (And.intro trivial trivial)) trivial)
 clear hreal
 repeat (first|apply zq|apply zb|apply zk)
 apply zr
 intro _
 repeat (first|apply zq|apply zb|apply zk)
 apply zr
 refine And.intro (fun _ => hc) ?_
 intro _
 refine AWp.ret ⟨Or.inl rfl, ?_⟩
 intro _
 exact And.intro rfl (And.intro (And.intro trivial (And.intro trivial (And.intro trivial trivial))) trivial)
theorem snocM {K M : List Mov} {i : Nat} (hi : i < (K ++ M).length) : Mov.cells ((K ++ M).getD i default) = if i < K.length then Mov.cells (K.getD i default) else Mov.cells (M.getD (i - K.length) default) := by
 by_cases e : i < K.length
 ·rw [if_pos e]
  simp only [List.getD_eq_getElem?_getD, List.getElem?_append_left e]
 ·rw [if_neg e]
  simp only [List.getD_eq_getElem?_getD, List.getElem?_append_right (Nat.le_of_not_lt e)]
theorem snoc2 {out : List Mov} {x y : Mov} {i : Nat} (hi : i < (out ++ [x, y]).length) {r0 r1 : List AV} (h0 : r0 = x.cells) (h1 : r1 = y.cells) : Mov.cells ((out ++ [x, y]).getD i default) = if i < out.length then Mov.cells (out.getD i default) else ([r0, r1].getD (i - out.length) [] : List AV) := by
 rw [snocM hi, h0, h1]
 by_cases e : i < out.length
 ·rw [if_pos e, if_pos e]
 ·rw [if_neg e, if_neg e]
  rw [List.length_append] at hi
  simp only [List.length_cons, List.length_nil] at hi
  rcases (show i - out.length = 0 ∨ i - out.length = 1 by omega) with e | e <;> rw [e] <;> rfl
theorem snoc1 {out : List Mov} {x : Mov} {i : Nat} (hi : i < (out ++ [x]).length) {r0 : List AV} (h0 : r0 = x.cells) : Mov.cells ((out ++ [x]).getD i default) = if i < out.length then Mov.cells (out.getD i default) else ([r0].getD (i - out.length) [] : List AV) := by
 rw [snocM hi, h0]
 by_cases e : i < out.length
 ·rw [if_pos e, if_pos e]
 ·rw [if_neg e, if_neg e]
  rw [List.length_append] at hi
  simp only [List.length_cons, List.length_nil] at hi
  rw [show i - out.length = 0 by omega]; rfl
set_option maxRecDepth 8000 in
set_option maxHeartbeats 4000000 in
theorem m_put (hO : out.length ≤ 100000) (f t : Plc) (c : Int) (hc : 0 ≤ c ∧ c < 2) : ACallM B.P 71 ⟨[.obj 1001 0, f.av, t.av, .i64 c], jbH m fr N L A 1004 out, .tup [], jbH m fr N L A 44 (out ++ putL m f t c)⟩ := by
 refine ACallM.enter B _ _ Try.func71 rfl rfl Try.ntmps71 Try.results71 rfl ?_ fun hreal => ?_
 ·refine And.intro ?_ (And.intro ?_ ?_)
  all_goals repeat' (first|exact rfl|exact trivial|refine And.intro ?_ ?_)
 clear hreal
 repeat (first|apply zq|apply zb|apply zk)
 apply zr
 intro _
 refine AWp.freezeObj 5 rfl rfl ?_
 refine AWp.freezeObj 6 rfl rfl ?_
 repeat (first|apply zq|apply zb|apply zk)
 apply zr
 repeat' (first|exact trivial|refine And.intro ?_ ?_|fail)
 all_goals first|exact fun hh => hh|exact gT|exact gF|exact gN|exact gA|skip
 intro _
 repeat (first|apply zq|apply zb|apply zk)
 refine AWp.cond (And.intro (fun h1 => ?_) (fun h1 => ?_))
 ·have h1 : (bif (f.Kind == 2) then (t.Kind == 2) else false) = true := h1
  have h2 : f.Kind = 2 ∧ t.Kind = 2 := by
   cases h3 : (f.Kind == 2) with
   | false => rw [h3] at h1; cases h1
   | true => rw [h3] at h1; exact ⟨beq_iff_eq.1 h3, beq_iff_eq.1 h1⟩
  have hp : putL m f t c = [⟨f, scP m c⟩, ⟨scP m c, t⟩] := if_pos h2
  rw [hp]
  repeat (first|apply zq|apply zb|apply zk)
  apply zr
  refine CallX.shown (m_scr m fr c hc) [] [1001] rfl trivial rfl rfl trivial ?_
  intro _
  refine AWp.freezeObj 8 rfl rfl ?_
  repeat (first|apply zq|apply zb|apply zk)
  refine AWp.quietU (.q 0 [] (.q 1 [] (.q 2 [1001] (.q 3 [1001] (.q 4 [1001] (.q 5 [] (.q 6 [] (.q 7 [] (.q 8 [] (.q 9 [] (.q 10 [] (.k 11 [1001] (.k 12 [] (.q 13 [1001] (.q 14 [1001] (.k 15 [] .fin .no))) .no) .no)))))))))))) [(0, []), (1, []), (2, [1001]), (3, [1001]), (4, [1001]), (5, []), (6, []), (7, []), (8, []), (9, []), (10, []), (13, [1001]), (14, [1001])] mixed (by kernel_rfl) ?_
  repeat' (first|exact trivial|refine And.intro ?_ ?_|fail)
  all_goals first|exact rfl|exact fun _ _ => rfl|(intro j hj; rcases (show j = 0 ∨ j = 1 by omega) with rfl|rfl <;> exact rfl)|omega|skip
  intro _
  refine AWp.rename 32 44 rfl rfl ?_
  refine AWp.ret ⟨Or.inl rfl, ?_⟩
  intro _
  refine And.intro rfl (And.intro trivial (And.intro (congrArg (fun n => some (HO.cells [.i64 m.r0, .i64 m.r1, .sl 1002 L.length, .mp 1003, .i64 2, .i64 0, .i64 fr, .sl ⟨44, []⟩ n])) (show out.length + 2 = _ from (by rw [List.length_append]; rfl))) (And.intro ?_ (And.intro ⟨_, _, rfl, rfl, fun i hi => rfl⟩ (And.intro trivial (And.intro rfl (And.intro trivial (And.intro ⟨_, _, rfl, (show out.length + 2 = _ from (by rw [List.length_append]; rfl)), fun i hi => snoc2 hi rfl rfl⟩ (And.intro trivial trivial)))))))))
  all_goals repeat' (first|exact rfl|exact trivial|exact congrArg some (congrArg (fun n => AV.sl ⟨44, []⟩ n) (by rw [List.length_append]; rfl))|refine And.intro ?_ ?_)
 refine AWp.skip ?_
 have h1 : (bif (f.Kind == 2) then (t.Kind == 2) else false) = false := h1
 have hp : putL m f t c = [⟨f, t⟩] := if_neg fun h2 => by rw [h2.1, h2.2] at h1; cases h1
 rw [hp]
 repeat (first|apply zq|apply zb|apply zk)
 refine AWp.quietU (.q 0 [] (.q 1 [] (.q 2 [1001] (.q 3 [1001] (.q 4 [1001] (.q 5 [] (.q 6 [] (.q 7 [] (.k 8 [1001] (.k 9 [] (.q 10 [1001] (.q 11 [1001] (.k 12 [] .fin .no))) .no) .no))))))))) [(0, []), (1, []), (2, [1001]), (3, [1001]), (4, [1001]), (5, []), (6, []), (7, []), (10, [1001]), (11, [1001])] mixed (by kernel_rfl) ?_
 repeat' (first|exact trivial|refine And.intro ?_ ?_|fail)
 all_goals first|exact rfl|exact fun _ _ => rfl|(intro j hj; obtain rfl : j = 0 := (by omega); exact rfl)|omega|skip
 intro _
 refine ⟨Or.inr rfl, ?_⟩
 intro _
 refine And.intro rfl (And.intro trivial (And.intro (congrArg (fun n => some (HO.cells [.i64 m.r0, .i64 m.r1, .sl 1002 L.length, .mp 1003, .i64 2, .i64 0, .i64 fr, .sl ⟨44, []⟩ n])) (show out.length + 1 = _ from (by rw [List.length_append]; rfl))) (And.intro ?_ (And.intro ⟨_, _, rfl, rfl, fun i hi => rfl⟩ (And.intro trivial (And.intro rfl (And.intro trivial (And.intro ⟨_, _, rfl, (show out.length + 1 = _ from (by rw [List.length_append]; rfl)), fun i hi => snoc1 hi rfl⟩ (And.intro trivial trivial)))))))))
 all_goals repeat' (first|exact rfl|exact trivial|refine And.intro ?_ ?_)
end
end Go.Proofs.Ytjjgjflbhpoloaa
