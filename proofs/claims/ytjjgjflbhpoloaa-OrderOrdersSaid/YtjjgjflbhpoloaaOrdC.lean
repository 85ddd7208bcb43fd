/- An own map with places as keys: looks and updates. No condition. -/
import Derived.Test.YtjjgjflbhpoloaaOrdB
import Derived.MapKept
set_option linter.unusedVariables false
set_option linter.unusedSimpArgs false
namespace Go.Proofs.Ytjjgjflbhpoloaa
open Go Go.Abs Go.RowKit
@[reducible] def plV (p : Plc) : Value := .agg #[.int .i64 p.Kind, .int .i64 p.Class, .int .i64 p.N]
theorem plV_rep {F : Nat → Prop} {w : World} {p : Plc} {v : Value} (h : Rep F w (fun _ => none) p.av v) : v = plV p := by
 cases h with
 | agg _ _ vs hl hv =>
  have h0 := hv 0 _ rfl
  have h1 := hv 1 _ rfl
  have h2 := hv 2 _ rfl
  obtain ⟨l⟩ := vs
  match l, hl with
  | [a, b, c], _ =>
   simp only [Array.getD_eq_getD_getElem?, List.getElem?_toArray, List.getElem?_cons_zero, List.getElem?_cons_succ, Option.getD_some] at h0 h1 h2
   cases h0; cases h1; cases h2; rfl
theorem k_check (e : Bool) (p : Plc) (w : World) : (Instr.checkKey e 10000 34 (plV p)).run Try.prog w = .ok () w := by
 kernel_rfl
theorem k_leaves : Abs.leaves Try.prog 8 34 = some [.int, .int, .int] := by kernel_rfl
theorem k_equal (p q : Plc) (w : World) : (Op.equal 34 (plV p) (plV q)).run Try.prog w = .ok (p == q) w := by
 have h : (Op.equalIn 10000 34 (plV p) (plV q)).run Try.prog w = .ok ((p.Kind == q.Kind) && ((p.Class == q.Class) && ((p.N == q.N) && true))) w :=
  equalIn_leaves 8 _ _ k_leaves 10000 (by omega) w _ _ [.int .i64 p.Kind, .int .i64 p.Class, .int .i64 p.N] [.int .i64 q.Kind, .int .i64 q.Class, .int .i64 q.N] _ ⟨_, Try.underlying34, rfl⟩ ⟨_, Try.underlying34, rfl⟩ rfl
 have e : ((p.Kind == q.Kind) && ((p.Class == q.Class) && ((p.N == q.N) && true))) = (p == q) := by
  obtain ⟨a, b, c⟩ := p
  obtain ⟨a', b', c'⟩ := q
  rw [Bool.eq_iff_iff]
  simp only [Bool.and_eq_true, beq_iff_eq, Plc.mk.injEq, and_true]
 rw [e] at h
 exact h
@[reducible] def esL (A : List (Plc × Int)) : List (Value × Value) := A.map fun e => (plV e.1, Value.int .i64 e.2)
def fnd : List (Plc × Int) → Plc → Nat → Option (Nat × Value)
 | [], _, _ => none
 | e :: r, p, i => if e.1 = p then some (i, .int .i64 e.2) else fnd r p (i + 1)
theorem fnd_lk {p : Plc} : ∀ {A : List (Plc × Int)} {i : Nat}, (hasP A p = true ∧ ∃ j, fnd A p i = some (j, .int .i64 (lkP A p))) ∨ (hasP A p = false ∧ lkP A p = 0 ∧ fnd A p i = none)
 | [], i => .inr ⟨rfl, rfl, rfl⟩
 | e :: r, i => by
  by_cases h : e.1 = p
  ·refine .inl ⟨?_, i, ?_⟩
   ·unfold hasP; rw [List.any_cons, beq_iff_eq.2 h]; rfl
   ·have h4 : lkP (e :: r) p = e.2 := if_pos h
    rw [h4]; exact if_pos h
  ·have h2 : (e.1 == p) = false := beq_eq_false_iff_ne.2 h
   have h3 : hasP (e :: r) p = hasP r p := by unfold hasP; rw [List.any_cons, h2, Bool.false_or]
   have h4 : lkP (e :: r) p = lkP r p := if_neg h
   have h5 : fnd (e :: r) p i = fnd r p (i + 1) := if_neg h
   rw [h3, h4, h5]
   exact fnd_lk
theorem k_ask (p : Plc) (w : World) : ∀ (ents : List MapEntry) (A : List (Plc × Int)) (i : Nat), (ents.map fun e => (e.key, e.val)) = esL A → (Instr.findAsking 34 (plV p) ents i).run Try.prog w = .ok (fnd A p i) w
 | [], [], i, _ => rfl
 | [], _ :: _, i, h => by cases h
 | _ :: _, [], i, h => by cases h
 | e :: r, a :: A, i, h => by
  simp only [List.map_cons, List.cons.injEq, Prod.mk.injEq] at h
  obtain ⟨⟨h1, h2⟩, h3⟩ := h
  unfold Instr.findAsking
  simp only [Sem.run_bind, h1, k_equal p a.1 w, Result.andThen_ok]
  by_cases e2 : a.1 = p
  ·have e3 : (p == a.1) = true := beq_iff_eq.2 e2.symm
   have e4 : fnd (a :: A) p i = some (i, .int .i64 a.2) := if_pos e2
   rw [e3, e4, h2]; rfl
  ·have e3 : (p == a.1) = false := beq_eq_false_iff_ne.2 fun h => e2 h.symm
   have e4 : fnd (a :: A) p i = fnd A p (i + 1) := if_neg e2
   rw [e3, e4]
   exact k_ask p w r A (i + 1) h3
theorem k_find (p : Plc) (w : World) (ents : List MapEntry) (A : List (Plc × Int)) (h : (ents.map fun e => (e.key, e.val)) = esL A) : (Instr.findKey 34 (plV p) ents).run Try.prog w = .ok (fnd A p 0) w := by
 unfold Instr.findKey
 simp only [Sem.run_bind, run_underlying Try.underlying34, Result.andThen_ok]
 cases ents with
 | nil =>
  cases A with
  | nil => rfl
  | cons a A => cases h
 | cons e r => exact k_ask p w (e :: r) A 0 h
theorem k_zero (w : World) : (zeroValue 3).run Try.prog w = .ok (.int .i64 0) w := by kernel_rfl
@[reducible] def lkV (ok : Bool) (A : List (Plc × Int)) (p : Plc) : AV := match ok with
 | true => .tup [.i64 (lkP A p), .bool (hasP A p)]
 | false => .i64 (lkP A p)
theorem look_pl (A : List (Plc × Int)) (p : Plc) (ok : Bool) : LookR B.P 74 (esL A) p.av ok (lkV ok A p) := by
 intro F w key b ents clock hk hb he
 have hk := plV_rep hk
 subst hk
 have hg := MapKept.run_getObj_map (P := Try.prog) hb
 have hf := k_find p w ents.toList A he
 have hc := k_check ents.isEmpty p w
 have hrun : ∀ r : Value × Bool, (match fnd A p 0 with
   | some (_, v) => (v, true)
   | none => (Value.int .i64 0, false)) = r → (Instr.lookup 74 (.map (some b)) (plV p) ok).run Try.prog w = .ok (if ok then .tuple #[r.1, .bool r.2] else r.1) w := by
  rintro r rfl
  unfold Instr.lookup
  simp only [Sem.run_bind, run_underlying Try.underlying74, Result.andThen_ok, hg, Sem.run_pure, hc, hf]
  cases fnd A p 0 with
  | none => simp only [Sem.run_bind, k_zero, Result.andThen_ok, Sem.run_pure]
  | some x => rfl
 rcases fnd_lk (A := A) (p := p) (i := 0) with ⟨h1, j, h2⟩ | ⟨h1, h2, h3⟩
 ·rw [h2] at hrun
  have := hrun _ rfl
  refine ⟨_, this, ?_⟩
  cases ok with
  | true =>
   show Rep F w (fun _ => none) (.tup [.i64 (lkP A p), .bool (hasP A p)]) _
   rw [h1]
   refine .tup _ _ _ rfl fun j c hc => ?_
   match j, hc with
   | 0, hc => injection hc with hc; subst hc; exact .val _ _
   | 1, hc => injection hc with hc; subst hc; exact .val _ _
  | false => exact .val _ _
 ·rw [h3] at hrun
  have := hrun _ rfl
  refine ⟨_, this, ?_⟩
  cases ok with
  | true =>
   show Rep F w (fun _ => none) (.tup [.i64 (lkP A p), .bool (hasP A p)]) _
   rw [h1, h2]
   refine .tup _ _ _ rfl fun j c hc => ?_
   match j, hc with
   | 0, hc => injection hc with hc; subst hc; exact .val _ _
   | 1, hc => injection hc with hc; subst hc; exact .val _ _
  | false =>
   show Rep F w (fun _ => none) (.i64 (lkP A p)) _
   rw [h2]; exact .val _ _
theorem upd_pl (A : List (Plc × Int)) (p : Plc) (c : Int) (h : hasP A p = false) : UpdR B.P 74 (esL A) p.av (.i64 c) (esL (A ++ [(p, c)])) := by
 intro F w key val b ents clock hk hv hb he
 have hk := plV_rep hk
 subst hk
 cases hv
 have hg := MapKept.run_getObj_map (P := Try.prog) hb
 have hf := k_find p w ents.toList A he
 have hc := k_check false p w
 have h3 : fnd A p 0 = none := by
  rcases fnd_lk (A := A) (p := p) (i := 0) with ⟨h1, _⟩ | ⟨_, _, h3⟩
  ·rw [h] at h1; cases h1
  ·exact h3
 rw [h3] at hf
 refine ⟨ents.push { key := plV p, val := .int .i64 c, born := clock }, clock + 1, ?_, ?_⟩
 ·have hs := MapKept.run_setObj_map (P := Try.prog) (.map (ents.push { key := plV p, val := .int .i64 c, born := clock }) (clock + 1)) hb
  show (Instr.mapUpdate 74 (.map (some b)) (plV p) (.int .i64 c)).run Try.prog w = _
  unfold Instr.mapUpdate
  simp only [Sem.run_bind, run_underlying Try.underlying74, Result.andThen_ok, hg, hc, hf, hs]
 ·simp only [Array.toList_push, List.map_append, he, List.map_cons, List.map_nil]
end Go.Proofs.Ytjjgjflbhpoloaa
