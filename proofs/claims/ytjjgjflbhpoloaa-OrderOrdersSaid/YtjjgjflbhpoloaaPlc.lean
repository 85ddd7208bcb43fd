/- Places and moves: what comes in; contracts of the document's placeMay and cellOf. Condition: a machine that may be, where said. -/
import Derived.Test.YtjjgjflbhpoloaaLow
set_option linter.unusedVariables false
set_option linter.unusedSimpArgs false
namespace Go.Proofs.Ytjjgjflbhpoloaa
open Go Go.Abs Go.RowKit
theorem gN {g b : Bool} (h : (g && !b) = true) : (g && (b == false)) = true := by cases g <;> cases b <;> simp_all
theorem gT {b : Bool} (h : (true && b) = true) : (b == true) = true := by cases b <;> simp_all
theorem gF {b : Bool} (h : (true && !b) = true) : (b == false) = true := by cases b <;> simp_all
theorem tupI {a b : Int} (h : a = b) : tupOf [AV.val (.int .i64 a)] = AV.val (.int .i64 b) := by rw [h]; rfl
theorem tupB {a b : Bool} (h : a = b) : tupOf [AV.val (.bool a)] = AV.val (.bool b) := by rw [h]; rfl
structure Plc where
 (Kind Class N : Int)
deriving DecidableEq, Inhabited
structure Mov where
 (From To : Plc)
deriving DecidableEq, Inhabited
@[reducible] def Plc.cells (p : Plc) : List AV := [.i64 p.Kind, .i64 p.Class, .i64 p.N]
@[reducible] def Plc.av (p : Plc) : AV := .agg p.cells
@[reducible] def Mov.cells (m : Mov) : List AV := [.i64 m.From.Kind, .i64 m.From.Class, .i64 m.From.N, .i64 m.To.Kind, .i64 m.To.Class, .i64 m.To.N]
@[reducible] def Mov.av (m : Mov) : AV := .agg m.cells
def Plc.ok (p : Plc) : Prop := In64 p.Kind ∧ In64 p.Class ∧ In64 p.N
def Mov.ok (m : Mov) : Prop := m.From.ok ∧ m.To.ok
theorem o_plc : OpensC Try.prog 34 fun avs => ∃ o : Plc, avs = o.cells ∧ Plc.ok o :=
 (opens_fields Try.underlying34 (Ss := [SI, SI, SI]) (by kernel_rfl) ⟨o_int, o_int, o_int, trivial⟩).mono (by
  rintro avs ⟨_, _, ⟨a, rfl, wa⟩, ⟨_, _, ⟨b, rfl, wb⟩, ⟨_, _, ⟨c, rfl, wc⟩, rfl, rfl⟩, rfl⟩, rfl⟩
  exact ⟨⟨a, b, c⟩, rfl, wa, wb, wc⟩)
def SPl (avs : List AV) : Prop := ∃ o : Plc, avs = o.cells ∧ Plc.ok o
theorem o_mov : OpensC Try.prog 36 fun avs => ∃ o : Mov, avs = o.cells ∧ Mov.ok o :=
 (opens_fields Try.underlying36 (Ss := [SPl, SPl]) (by kernel_rfl) ⟨o_plc, o_plc, trivial⟩).mono (by
  rintro avs ⟨_, _, ⟨a, rfl, wa⟩, ⟨_, _, ⟨b, rfl, wb⟩, rfl, rfl⟩, rfl⟩
  exact ⟨⟨a, b⟩, rfl, wa, wb⟩)
theorem o_moves : OpensC Try.prog 25 (SL 48 6 Mov.cells Mov.ok) :=
 opens_slice (sz := 6) Try.underlying25 (by kernel_rfl) (by decide) (fun _ => rfl) (by kernel_rfl) o_mov
theorem gA {a b : Bool} (h : (a && b) = true) : (a && (b == true)) = true := by cases a <;> cases b <;> simp_all
def regF (m : Mch) (c : Int) : Int := [m.r0, m.r1].getD c.toNat 0
def placeF (m : Mch) (fr : Int) (p : Plc) : Bool :=
 if p.Kind = 1 then decide (0 ≤ p.Class ∧ p.Class < 2 ∧ 0 ≤ p.N ∧ p.N < regF m p.Class)
 else if p.Kind = 2 then decide (p.Class = 0 ∧ 0 ≤ p.N ∧ p.N < fr) else false
def endF (m : Mch) (fr : Int) (p : Plc) : Bool :=
 if p.Kind = 1 ∧ 0 ≤ p.Class ∧ p.Class < 2 ∧ p.N = regF m p.Class then true else placeF m fr p
theorem reg_range {m : Mch} (hm : machF m = 0) (c : Nat) : 0 ≤ [m.r0, m.r1].getD c 0 ∧ [m.r0, m.r1].getD c 0 ≤ 10 := by
 have h : inB m.r0 2 10 = true ∧ inB m.r1 2 10 = true := by
  unfold machF at hm
  split at hm
  ·rename_i h; simpa using h
  ·cases hm
 have h1 := h.1
 have h2 := h.2
 unfold inB at h1 h2
 simp only [Bool.and_eq_true, decide_eq_true_eq] at h1 h2
 match c with
 | 0 => simp; omega
 | 1 => simp; omega
 | c + 2 => simp
set_option maxHeartbeats 600000 in
theorem c_placeMay (m : Mch) (hm : machF m = 0) (fr : Int) (hf : 0 ≤ fr ∧ fr ≤ 1000) (p : Plc) (s : Bool) : ACallIs B.P 36 [m.av, .i64 fr, p.av, .bool s] (.bool (bif s then endF m fr p else placeF m fr p)) := by
 have h1 : IntKind.i64.wrap (fr - 1) = fr - 1 := wrap_in (by omega) (by omega)
 have h2 : ∀ c : Nat, IntKind.i64.wrap ([m.r0, m.r1].getD c 0 - 1) = [m.r0, m.r1].getD c 0 - 1 := fun c => by have := reg_range hm c; exact wrap_in (by omega) (by omega)
 have h3 : ∀ a b c : Int, (decide (a ≤ b) = decide (a ≤ c)) ↔ ((a ≤ b) ↔ (a ≤ c)) := fun a b c => by simp
 refine ACallIs.enter B _ _ Try.func36 rfl rfl Try.ntmps36 Try.results36 rfl fun hreal => ?_
 clear hreal
 repeat (first|apply zq|apply zb|apply zk)
 apply zr
 intro _
 refine AWp.freezeObj 4 rfl rfl ?_
 refine AWp.freezeObj 6 rfl rfl ?_
 repeat' (first
  | apply zq | apply zb | apply zk | apply ze
  | apply zr | refine AWp.draw mixed (by kernel_rfl) ?_
  | refine AWp.cond (And.intro (fun h => ?_) (fun h => ?_))
  | refine AWp.ret ⟨Or.inl rfl, rfl, ?_⟩
  | refine CallX.pure (c_In _ _ _) rfl rfl rfl ?_ | refine CallK.intro (fun _ => c_In _ _ _) ?_
  | exact trivial | refine And.intro ?_ ?_ | intro _)
 all_goals first|assumption|skip
 all_goals try simp only [h1, h2] at *
 all_goals cases s
 all_goals first
  | assumption
  | (refine tupB (Bool.eq_iff_iff.2 ?_); (try simp only [bif_if, inB, endF, placeF, regF, Bool.and_eq_true, Bool.or_eq_true, decide_eq_true_eq] at *); grind)
  | ((try simp only [tupOf, bif_if, inB, endF, placeF, regF] at *); grind)
def celF (p : Plc) : Nat := if p.Kind = 2 then 22 + p.N.toNat else 11 * p.Class.toNat + p.N.toNat
theorem celF_slot {p : Plc} (h : p.Kind = 2) : celF p = 22 + p.N.toNat := if_pos h
theorem celF_reg {p : Plc} (h : p.Kind = 1) : celF p = 11 * p.Class.toNat + p.N.toNat := if_neg (by omega)
def PlOk (fr : Nat) (p : Plc) : Prop := (p.Kind = 1 ∧ 0 ≤ p.Class ∧ p.Class < 2 ∧ 0 ≤ p.N ∧ p.N ≤ 10) ∨ (p.Kind = 2 ∧ p.Class = 0 ∧ 0 ≤ p.N ∧ p.N < fr)
theorem c_cellOf {fr : Nat} (hf : fr ≤ 1000) {p : Plc} (h : PlOk fr p) : ACallIs B.P 38 [p.av] (.i64 (celF p)) := by
 refine ACallIs.enter B _ _ Try.func38 rfl rfl Try.ntmps38 Try.results38 rfl fun hreal => ?_
 clear hreal
 repeat (first|apply zq|apply zb|apply zk)
 apply zr
 intro _
 refine AWp.freezeObj 1 rfl rfl ?_
 repeat (first|apply zq|apply zb|apply zk)
 apply zr
 intro _
 repeat (first|apply zq|apply zb|apply zk)
 refine AWp.cond (And.intro (fun h1 => ?_) (fun h1 => ?_))
 ·have hk : p.Kind = 2 := by simpa using h1
  repeat (first|apply zq|apply zb|apply zk)
  apply zr
  intro _
  refine AWp.ret ⟨Or.inl rfl, rfl, ?_⟩
  intro _
  refine tupI ?_
  rw [celF_slot hk]
  rcases h with h | h
  ·omega
  ·show IntKind.i64.wrap (22 + p.N) = _
   rw [wrap_in (by omega) (by omega)]; omega
 ·have hk : p.Kind ≠ 2 := by simpa using h1
  repeat (first|apply zq|apply zb|apply zk)
  apply zr
  intro _
  refine AWp.ret ⟨Or.inl rfl, rfl, ?_⟩
  intro _
  refine tupI ?_
  rcases h with h | h
  ·rw [celF_reg h.1]
   show IntKind.i64.wrap (IntKind.i64.wrap (11 * p.Class) + p.N) = _
   rw [wrap_in (n := 11 * p.Class) (by omega) (by omega), wrap_in (by omega) (by omega)]; omega
  ·exact absurd h.1 hk
end Go.Proofs.Ytjjgjflbhpoloaa
