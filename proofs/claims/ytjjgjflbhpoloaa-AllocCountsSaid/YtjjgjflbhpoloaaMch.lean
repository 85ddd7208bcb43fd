/- Outputs, mach.Check and the document's OutputFault. Condition: arguments as they come in. -/
import Derived.Test.YtjjgjflbhpoloaaDom
set_option linter.unusedVariables false
set_option linter.unusedSimpArgs false
/- Data of outputs: places, moves, edits; what comes in; contracts of mach's place, scratch, end, move and of the document's placeMay. Condition: a machine that may be, where said. -/
namespace Go.Proofs.Ytjjgjflbhpoloaa
open Go Go.Abs Go.RowKit
structure Plc where
 (Kind Class N : Int)
deriving DecidableEq, Inhabited
structure Mov where
 (From To : Plc)
deriving DecidableEq, Inhabited
structure Edt where
 (Block At : Int)
 Moves : List Mov
deriving DecidableEq, Inhabited
structure Oup where
 Places : List (List (List Plc))
 Edits : List Edt
 Frame : Int
deriving DecidableEq, Inhabited
@[reducible] def Plc.cells (p : Plc) : List AV := [.i64 p.Kind, .i64 p.Class, .i64 p.N]
@[reducible] def Plc.av (p : Plc) : AV := .agg p.cells
@[reducible] def Mov.cells (m : Mov) : List AV := [.i64 m.From.Kind, .i64 m.From.Class, .i64 m.From.N, .i64 m.To.Kind, .i64 m.To.Class, .i64 m.To.N]
@[reducible] def Mov.av (m : Mov) : AV := .agg m.cells
@[reducible] def Edt.cells (e : Edt) : List AV := [.i64 e.Block, .i64 e.At, roL 6 Mov.cells e.Moves]
@[reducible] def plc1 (l : List Plc) : List AV := [roL 3 Plc.cells l]
@[reducible] def plc2 (l : List (List Plc)) : List AV := [roL 1 plc1 l]
@[reducible] def Oup.cells (o : Oup) : List AV := [roL 1 plc2 o.Places, roL 3 Edt.cells o.Edits, .i64 o.Frame]
@[reducible] def Oup.av (o : Oup) : AV := .agg o.cells
def Plc.ok (p : Plc) : Prop := In64 p.Kind ∧ In64 p.Class ∧ In64 p.N
def Mov.ok (m : Mov) : Prop := m.From.ok ∧ m.To.ok
def Edt.ok (e : Edt) : Prop := In64 e.Block ∧ In64 e.At ∧ LOk 48 Mov.ok e.Moves
def Oup.ok (o : Oup) : Prop := LOk 24 (fun r => LOk 24 (fun q => LOk 24 Plc.ok q) r) o.Places ∧ LOk 40 Edt.ok o.Edits ∧ In64 o.Frame
theorem o_plc : OpensC Try.prog 34 fun avs => ∃ o : Plc, avs = o.cells ∧ Plc.ok o :=
 (opens_fields Try.underlying34 (Ss := [SI, SI, SI]) (by kernel_rfl) ⟨o_int, o_int, o_int, trivial⟩).mono (by
  rintro avs ⟨_, _, ⟨a, rfl, wa⟩, ⟨_, _, ⟨b, rfl, wb⟩, ⟨_, _, ⟨c, rfl, wc⟩, rfl, rfl⟩, rfl⟩, rfl⟩
  exact ⟨⟨a, b, c⟩, rfl, wa, wb, wc⟩)
def SPl (avs : List AV) : Prop := ∃ o : Plc, avs = o.cells ∧ Plc.ok o
theorem o_mov : OpensC Try.prog 36 fun avs => ∃ o : Mov, avs = o.cells ∧ Mov.ok o :=
 (opens_fields Try.underlying36 (Ss := [SPl, SPl]) (by kernel_rfl) ⟨o_plc, o_plc, trivial⟩).mono (by
  rintro avs ⟨_, _, ⟨a, rfl, wa⟩, ⟨_, _, ⟨b, rfl, wb⟩, rfl, rfl⟩, rfl⟩
  exact ⟨⟨a, b⟩, rfl, wa, wb⟩)
theorem o_moves : OpensC Try.prog 25 (SL 48 6 Mov.cells Mov.ok) :=
 opens_slice (sz := 6) Try.underlying25 (by kernel_rfl) (by decide) (fun _ => rfl) (by kernel_rfl) o_mov
theorem o_plc1 : OpensC Try.prog 138 fun avs => ∃ l : List Plc, avs = plc1 l ∧ LOk 24 Plc.ok l :=
 opens_slice (sz := 3) Try.underlying138 (by kernel_rfl) (by decide) (fun _ => rfl) (by kernel_rfl) o_plc
theorem o_plc2 : OpensC Try.prog 139 fun avs => ∃ l : List (List Plc), avs = plc2 l ∧ LOk 24 (fun q => LOk 24 Plc.ok q) l :=
 opens_slice (sz := 1) Try.underlying139 (by kernel_rfl) (by decide) (fun _ => rfl) (by kernel_rfl) o_plc1
theorem o_plc3 : OpensC Try.prog 53 (SL 24 1 plc2 (fun r => LOk 24 (fun q => LOk 24 Plc.ok q) r)) :=
 opens_slice (sz := 1) Try.underlying53 (by kernel_rfl) (by decide) (fun _ => rfl) (by kernel_rfl) o_plc2
theorem o_edt : OpensC Try.prog 141 fun avs => ∃ o : Edt, avs = o.cells ∧ Edt.ok o :=
 (opens_fields Try.underlying141 (Ss := [SI, SI, SL 48 6 Mov.cells Mov.ok]) (by kernel_rfl) ⟨o_int, o_int, o_moves, trivial⟩).mono (by
  rintro avs ⟨_, _, ⟨a, rfl, wa⟩, ⟨_, _, ⟨b, rfl, wb⟩, ⟨_, _, ⟨c, rfl, wc⟩, rfl, rfl⟩, rfl⟩, rfl⟩
  exact ⟨⟨a, b, c⟩, rfl, wa, wb, wc⟩)
theorem o_edts : OpensC Try.prog 54 (SL 40 3 Edt.cells Edt.ok) :=
 opens_slice (sz := 3) Try.underlying54 (by kernel_rfl) (by decide) (fun _ => rfl) (by kernel_rfl) o_edt
theorem o_out : OpensC Try.prog 56 fun avs => ∃ o : Oup, avs = o.cells ∧ Oup.ok o :=
 (opens_fields Try.underlying56 (Ss := [SL 24 1 plc2 (fun r => LOk 24 (fun q => LOk 24 Plc.ok q) r), SL 40 3 Edt.cells Edt.ok, SI]) (by kernel_rfl) ⟨o_plc3, o_edts, o_int, trivial⟩).mono (by
  rintro avs ⟨_, _, ⟨a, rfl, wa⟩, ⟨_, _, ⟨b, rfl, wb⟩, ⟨_, _, ⟨c, rfl, wc⟩, rfl, rfl⟩, rfl⟩, rfl⟩
  exact ⟨⟨a, b, c⟩, rfl, wa, wb, wc⟩)
theorem gA {a b : Bool} (h : (a && b) = true) : (a && (b == true)) = true := by cases a <;> cases b <;> simp_all
def regF (m : Mch) (c : Int) : Int := [m.r0, m.r1].getD c.toNat 0
def placeF (m : Mch) (fr : Int) (p : Plc) : Bool :=
 if p.Kind = 1 then decide (0 ≤ p.Class ∧ p.Class < 2 ∧ 0 ≤ p.N ∧ p.N < regF m p.Class)
 else if p.Kind = 2 then decide (p.Class = 0 ∧ 0 ≤ p.N ∧ p.N < fr) else false
def endF (m : Mch) (fr : Int) (p : Plc) : Bool :=
 if p.Kind = 1 ∧ 0 ≤ p.Class ∧ p.Class < 2 ∧ p.N = regF m p.Class then true else placeF m fr p
def movF (m : Mch) (fr : Int) (x : Mov) : Int :=
 if endF m fr x.From = false ∨ endF m fr x.To = false then 2
 else if x.From.Kind = 2 ∧ x.To.Kind = 2 then 13
 else if x.From.Kind = 1 ∧ x.To.Kind = 1 ∧ x.From.Class ≠ x.To.Class then 17 else 0
set_option maxHeartbeats 600000 in
theorem c_place (m : Mch) (o : Oup) (p : Plc) : ACallIs B.P 87 [m.av, o.av, p.av] (.bool (placeF m o.Frame p)) := by
 refine ACallIs.enter B _ _ Try.func87 rfl rfl Try.ntmps87 Try.results87 rfl fun hreal => ?_
 clear hreal
 repeat (first|apply zq|apply zb|apply zk)
 apply zr
 intro _
 refine AWp.freezeObj 3 rfl rfl ?_
 refine AWp.freezeObj 4 rfl rfl ?_
 refine AWp.freezeObj 5 rfl rfl ?_
 repeat' (first
  | apply zq | apply zb | apply zk | apply ze
  | apply zr | refine AWp.draw mixed (by kernel_rfl) ?_
  | refine AWp.cond (And.intro (fun h => ?_) (fun h => ?_))
  | refine AWp.ret ⟨Or.inl rfl, rfl, ?_⟩
  | exact trivial | refine And.intro ?_ ?_ | intro _)
 all_goals first|assumption|((try simp only [tupOf, bif_if, placeF, regF] at *); grind)
set_option maxHeartbeats 600000 in
theorem c_scratch (m : Mch) (c : Int) (hc : 0 ≤ c ∧ c < 2) : ACallIs B.P 181 [m.av, .i64 c] (.agg [.i64 1, .i64 c, .i64 (regF m c)]) := by
 refine ACallIs.enter B _ _ Try.func181 rfl rfl Try.ntmps181 Try.results181 rfl fun hreal => ?_
 clear hreal
 repeat (first|apply zq|apply zb|apply zk)
 apply zr
 intro _
 refine AWp.freezeObj 2 rfl rfl ?_
 repeat (first|apply zq|apply zb|apply zk)
 apply zr
 refine And.intro (fun _ => hc) ?_
 intro _
 refine AWp.ret ⟨Or.inl rfl, rfl, ?_⟩
 intro _
 rfl
set_option maxHeartbeats 600000 in
theorem c_end (m : Mch) (o : Oup) (p : Plc) : ACallIs B.P 164 [m.av, o.av, p.av] (.bool (endF m o.Frame p)) := by
 refine ACallIs.enter B _ _ Try.func164 rfl rfl Try.ntmps164 Try.results164 rfl fun hreal => ?_
 clear hreal
 repeat (first|apply zq|apply zb|apply zk)
 apply zr
 intro _
 refine AWp.freezeObj 3 rfl rfl ?_
 refine AWp.freezeObj 4 rfl rfl ?_
 refine AWp.freezeObj 5 rfl rfl ?_
 repeat' (first
  | apply zq | apply zb | apply zk | apply ze
  | apply zr | refine AWp.draw mixed (by kernel_rfl) ?_
  | refine AWp.cond (And.intro (fun h => ?_) (fun h => ?_))
  | refine AWp.ret ⟨Or.inl rfl, rfl, ?_⟩
  | refine CallX.pure (c_scratch m p.Class (by grind)) rfl rfl rfl ?_ | refine CallK.intro (fun _ => c_scratch m p.Class (by grind)) ?_
  | refine CallX.pure (c_place m o p) rfl rfl rfl ?_ | refine CallK.intro (fun _ => c_place m o p) ?_
  | exact trivial | refine And.intro ?_ ?_ | intro _)
 all_goals first|assumption|((try simp only [tupOf, bif_if, endF, placeF, regF] at *); grind)
set_option maxHeartbeats 600000 in
theorem c_move (m : Mch) (o : Oup) (x : Mov) : ACallIs B.P 133 [m.av, o.av, x.av] (.i64 (movF m o.Frame x)) := by
 refine ACallIs.enter B _ _ Try.func133 rfl rfl Try.ntmps133 Try.results133 rfl fun hreal => ?_
 clear hreal
 repeat (first|apply zq|apply zb|apply zk)
 apply zr
 intro _
 refine AWp.freezeObj 3 rfl rfl ?_
 refine AWp.freezeObj 4 rfl rfl ?_
 refine AWp.freezeObj 5 rfl rfl ?_
 repeat' (first
  | apply zq | apply zb | apply zk | apply ze
  | apply zr | refine AWp.draw mixed (by kernel_rfl) ?_
  | refine AWp.cond (And.intro (fun h => ?_) (fun h => ?_))
  | refine AWp.ret ⟨Or.inl rfl, rfl, ?_⟩
  | refine CallX.pure (c_end m o x.From) rfl rfl rfl ?_ | refine CallK.intro (fun _ => c_end m o x.From) ?_
  | refine CallX.pure (c_end m o x.To) rfl rfl rfl ?_ | refine CallK.intro (fun _ => c_end m o x.To) ?_
  | exact trivial | refine And.intro ?_ ?_ | intro _)
 all_goals first|assumption|((try simp only [tupOf, bif_if, movF] at *); grind)
theorem reg_range {m : Mch} (hm : machF m = 0) (c : Nat) : 0 ≤ [m.r0, m.r1].getD c 0 ∧ [m.r0, m.r1].getD c 0 ≤ 10 := by
 have h : inB m.r0 2 10 = true ∧ inB m.r1 2 10 = true := by
  unfold machF at hm
  split at hm
  ·rename_i h; simpa using h
  ·cases hm
 have h1 := h.1
 have h2 := h.2
 unfold inB at h1 h2
 simp only [Bool.and_eq_true, decide_eq_true_eq] at h1 h2
 match c with
 | 0 => simp; omega
 | 1 => simp; omega
 | c + 2 => simp
set_option maxHeartbeats 600000 in
theorem c_placeMay (m : Mch) (hm : machF m = 0) (fr : Int) (hf : 0 ≤ fr ∧ fr ≤ 1000) (p : Plc) (s : Bool) : ACallIs B.P 36 [m.av, .i64 fr, p.av, .bool s] (.bool (bif s then endF m fr p else placeF m fr p)) := by
 have h1 : IntKind.i64.wrap (fr - 1) = fr - 1 := wrap_in (by omega) (by omega)
 have h2 : ∀ c : Nat, IntKind.i64.wrap ([m.r0, m.r1].getD c 0 - 1) = [m.r0, m.r1].getD c 0 - 1 := fun c => by have := reg_range hm c; exact wrap_in (by omega) (by omega)
 have h3 : ∀ a b c : Int, (decide (a ≤ b) = decide (a ≤ c)) ↔ ((a ≤ b) ↔ (a ≤ c)) := fun a b c => by simp
 refine ACallIs.enter B _ _ Try.func36 rfl rfl Try.ntmps36 Try.results36 rfl fun hreal => ?_
 clear hreal
 repeat (first|apply zq|apply zb|apply zk)
 apply zr
 intro _
 refine AWp.freezeObj 4 rfl rfl ?_
 refine AWp.freezeObj 6 rfl rfl ?_
 repeat' (first
  | apply zq | apply zb | apply zk | apply ze
  | apply zr | refine AWp.draw mixed (by kernel_rfl) ?_
  | refine AWp.cond (And.intro (fun h => ?_) (fun h => ?_))
  | refine AWp.ret ⟨Or.inl rfl, rfl, ?_⟩
  | refine CallX.pure (c_In _ _ _) rfl rfl rfl ?_ | refine CallK.intro (fun _ => c_In _ _ _) ?_
  | exact trivial | refine And.intro ?_ ?_ | intro _)
 all_goals first|assumption|skip
 all_goals try simp only [h1, h2] at *
 all_goals cases s
 all_goals first
  | assumption
  | (refine tupB (Bool.eq_iff_iff.2 ?_); (try simp only [bif_if, inB, endF, placeF, regF, Bool.and_eq_true, Bool.or_eq_true, decide_eq_true_eq] at *); grind)
  | ((try simp only [tupOf, bif_if, inB, endF, placeF, regF] at *); grind)
end Go.Proofs.Ytjjgjflbhpoloaa
/- What an output is refused for (plain); contracts of mach.edits, mach.Check and of the document's OutputFault. Condition: arguments as they come in. -/
namespace Go.Proofs.Ytjjgjflbhpoloaa
open Go Go.Abs Go.RowKit
def sumM (l : List Edt) : Nat → Nat
 | 0 => 0
 | i + 1 => sumM l i + (l.getD i default).Moves.length
def movG (m : Mch) (fr : Int) (e : Edt) (k : Nat) : Int := movF m fr (e.Moves.getD k default)
def edR (f : Fun) (x : Edt) : Prop := x.Block < 0 ∨ (f.Blocks.length : Int) ≤ x.Block ∨ x.At < 0 ∨ ((f.Blocks.getD x.Block.toNat default).Instrs.length : Int) < x.At
def edP (y x : Edt) : Prop := x.Block < y.Block ∨ (y.Block = x.Block ∧ x.At ≤ y.At)
open Classical in
noncomputable def edtG (f : Fun) (m : Mch) (o : Oup) (i : Nat) : Int :=
 if edR f (o.Edits.getD i default) then 2
 else if 0 < i ∧ edP (o.Edits.getD (i - 1) default) (o.Edits.getD i default) then 4
 else if 20000 < sumM o.Edits (i + 1) then 1
 else firstF (movG m o.Frame (o.Edits.getD i default)) (o.Edits.getD i default).Moves.length
theorem edtG_1 {f : Fun} {m : Mch} {o : Oup} {i : Nat} (h : edR f (o.Edits.getD i default)) : edtG f m o i = 2 := if_pos h
theorem edtG_2 {f : Fun} {m : Mch} {o : Oup} {i : Nat} (h : ¬ edR f (o.Edits.getD i default)) (h2 : 0 < i ∧ edP (o.Edits.getD (i - 1) default) (o.Edits.getD i default)) : edtG f m o i = 4 := by unfold edtG; rw [if_neg h, if_pos h2]
theorem edtG_3 {f : Fun} {m : Mch} {o : Oup} {i : Nat} (h : ¬ edR f (o.Edits.getD i default)) (h2 : ¬ (0 < i ∧ edP (o.Edits.getD (i - 1) default) (o.Edits.getD i default))) (h3 : 20000 < sumM o.Edits (i + 1)) : edtG f m o i = 1 := by unfold edtG; rw [if_neg h, if_neg h2, if_pos h3]
theorem edtG_4 {f : Fun} {m : Mch} {o : Oup} {i : Nat} (h : ¬ edR f (o.Edits.getD i default)) (h2 : ¬ (0 < i ∧ edP (o.Edits.getD (i - 1) default) (o.Edits.getD i default))) (h3 : ¬ 20000 < sumM o.Edits (i + 1)) : edtG f m o i = firstF (movG m o.Frame (o.Edits.getD i default)) (o.Edits.getD i default).Moves.length := by unfold edtG; rw [if_neg h, if_neg h2, if_neg h3]
def opG (m : Mch) (fr : Int) (l : List Plc) (k : Nat) : Int := if placeF m fr (l.getD k default) = true then 0 else 2
def plAt (o : Oup) (b i : Nat) : List Plc := (o.Places.getD b default).getD i default
def inG (f : Fun) (m : Mch) (o : Oup) (b i : Nat) : Int :=
 if (plAt o b i).length ≠ ((f.Blocks.getD b default).Instrs.getD i default).Operands.length then 4
 else firstF (opG m o.Frame (plAt o b i)) (plAt o b i).length
def bkG (f : Fun) (m : Mch) (o : Oup) (b : Nat) : Int :=
 if (o.Places.getD b default).length ≠ (f.Blocks.getD b default).Instrs.length then 4
 else firstF (inG f m o b) (f.Blocks.getD b default).Instrs.length
theorem inG_1 {f : Fun} {m : Mch} {o : Oup} {b i : Nat} (h : (plAt o b i).length ≠ ((f.Blocks.getD b default).Instrs.getD i default).Operands.length) : inG f m o b i = 4 := if_pos h
theorem inG_2 {f : Fun} {m : Mch} {o : Oup} {b i : Nat} (h : ¬ (plAt o b i).length ≠ ((f.Blocks.getD b default).Instrs.getD i default).Operands.length) : inG f m o b i = firstF (opG m o.Frame (plAt o b i)) (plAt o b i).length := if_neg h
theorem bkG_1 {f : Fun} {m : Mch} {o : Oup} {b : Nat} (h : (o.Places.getD b default).length ≠ (f.Blocks.getD b default).Instrs.length) : bkG f m o b = 4 := if_pos h
theorem bkG_2 {f : Fun} {m : Mch} {o : Oup} {b : Nat} (h : ¬ (o.Places.getD b default).length ≠ (f.Blocks.getD b default).Instrs.length) : bkG f m o b = firstF (inG f m o b) (f.Blocks.getD b default).Instrs.length := if_neg h
noncomputable def outF (f : Fun) (m : Mch) (o : Oup) : Int :=
 if flwF f m ≠ 0 then flwF f m
 else if o.Frame < 0 ∨ 1000 < o.Frame then 1
 else if o.Places.length ≠ f.Blocks.length then 4
 else if firstF (bkG f m o) f.Blocks.length ≠ 0 then firstF (bkG f m o) f.Blocks.length
 else firstF (edtG f m o) o.Edits.length
section
variable {f : Fun} {m : Mch} {o : Oup}
theorem outF_1 (h : flwF f m ≠ 0) : outF f m o = flwF f m := if_pos h
theorem outF_2 (h : flwF f m = 0) (h2 : o.Frame < 0 ∨ 1000 < o.Frame) : outF f m o = 1 := by unfold outF; rw [if_neg (fun e => e h), if_pos h2]
theorem outF_3 (h : flwF f m = 0) (h2 : ¬ (o.Frame < 0 ∨ 1000 < o.Frame)) (h3 : o.Places.length ≠ f.Blocks.length) : outF f m o = 4 := by unfold outF; rw [if_neg (fun e => e h), if_neg h2, if_pos h3]
theorem outF_4 (h : flwF f m = 0) (h2 : ¬ (o.Frame < 0 ∨ 1000 < o.Frame)) (h3 : ¬ o.Places.length ≠ f.Blocks.length) {v : Int} (h4 : firstF (bkG f m o) f.Blocks.length = v) (hv : v ≠ 0) : outF f m o = v := by unfold outF; rw [if_neg (fun e => e h), if_neg h2, if_neg h3, h4, if_pos hv]
theorem outF_5 (h : flwF f m = 0) (h2 : ¬ (o.Frame < 0 ∨ 1000 < o.Frame)) (h3 : ¬ o.Places.length ≠ f.Blocks.length) (h4 : firstF (bkG f m o) f.Blocks.length = 0) : outF f m o = firstF (edtG f m o) o.Edits.length := by unfold outF; rw [if_neg (fun e => e h), if_neg h2, if_neg h3, h4, if_neg fun e => e rfl]
theorem edits_len (hok : Oup.ok o) : o.Edits.length ≤ maxLen := by have := hok.2.1.1; unfold maxLen; omega
theorem moves_len (hok : Oup.ok o) {k : Nat} (hk : k < o.Edits.length) : (o.Edits.getD k default).Moves.length ≤ 140737488351232 := by
 have := (hok.2.1.2 _ (getD_mem (d := default) hk)).2.2.1; omega
theorem cell_len (hok : Oup.ok o) {b i : Nat} (hb : b < o.Places.length) (hi : i < (o.Places.getD b default).length) : (plAt o b i).length ≤ maxLen := by
 have := ((hok.1.2 _ (getD_mem (d := default) hb)).2 _ (getD_mem (d := default) hi)).1; unfold plAt maxLen; omega
end
set_option maxHeartbeats 2000000 in
theorem c_edits (f : Fun) (m : Mch) (o : Oup) (hok : Oup.ok o) : ACallIs B.P 88 [f.av, m.av, o.av] (.i64 (firstF (edtG f m o) o.Edits.length)) := by
 have hlen := edits_len hok
 refine ACallIs.enter B _ _ Try.func88 rfl rfl Try.ntmps88 Try.results88 rfl fun hreal => ?_
 clear hreal
 repeat (first|apply zq|apply zb|apply zk)
 apply zr
 intro _
 refine AWp.freezeObj 3 rfl rfl ?_
 refine AWp.freezeObj 4 rfl rfl ?_
 refine AWp.freezeObj 5 rfl rfl ?_
 repeat (first|apply zq|apply zb|apply zk)
 apply zr
 intro _
 repeat (first|apply zq|apply zb|apply zk)
 apply zr
 intro _
 repeat (first|apply zq|apply zb|apply zk)
 refine AWp.loop (fun k : Nat => ⟨[(3, .ptr f.cells), (4, .ptr m.cells), (5, .ptr o.cells), (7, .i64 (sumM o.Edits k)), (15, roL 3 Edt.cells o.Edits), (16, .i64 o.Edits.length), (17, .i64 k)], []⟩) (fun k => k ≤ o.Edits.length ∧ sumM o.Edits k ≤ 20000 ∧ ∀ j, j < k → edtG f m o j = 0) (fun k => o.Edits.length - k) 0 ⟨Nat.zero_le _, Nat.zero_le _, fun j hj => absurd hj (by omega)⟩ ?_ ?_
 ·repeat' (first|exact rfl|exact trivial|refine And.intro ?_ ?_)
 rintro k ⟨hk, hsm, hg⟩
 repeat (first|apply zq|apply zb|apply zk)
 apply zr
 intro _
 repeat (first|apply zq|apply zb|apply zk)
 refine AWp.cond (And.intro (fun h1 => ?_) (fun h1 => ?_))
 ·have hk' : k < o.Edits.length := Int.ofNat_lt.1 (of_decide_eq_true h1)
  have hml := moves_len hok hk'
  have hmx : (o.Edits.getD k default).Moves.length ≤ maxLen := by unfold maxLen; omega
  have hit : ∀ {v : Int}, edtG f m o k = v → v ≠ 0 → v = firstF (edtG f m o) o.Edits.length := fun e hv => ((firstF_hit (k := k) hk' hg (by rw [e]; exact hv)).trans e).symm
  repeat (first|apply zq|apply zb|apply zk)
  apply zr
  refine And.intro (fun _ => nn (hk')) ?_
  intro _
  refine AWp.freezeObj 9 rfl rfl ?_
  repeat (first|apply zq|apply zb|apply zk)
  refine AWp.draw mixed (by kernel_rfl) ?_
  repeat' refine And.intro ?_ ?_
  all_goals first|exact fun h => h|exact gT|exact gF|exact gN|exact fun h => And.intro (by simp only [bif_if, Int.toNat_natCast] at h; grind) (by simp only [bif_if, Int.toNat_natCast] at h; grind)|skip
  intro _
  repeat (first|apply zq|apply zb|apply zk)
  refine AWp.cond (And.intro (fun h2 => ?_) (fun h2 => ?_))
  ·have e : edtG f m o k = 2 := edtG_1 (by clear hg hit; simp only [bif_if, Int.toNat_natCast] at h2; unfold edR; grind)
   repeat (first|apply zq|apply zb|apply zk)
   apply zr
   intro _
   refine AWp.ret ⟨Or.inl rfl, rfl, ?_⟩
   intro _
   exact tupI (hit e (by decide))
  have h2' : ¬ edR f (o.Edits.getD k default) := by clear hg hit; simp only [bif_if, Int.toNat_natCast] at h2; unfold edR; grind
  repeat (first|apply zq|apply zb|apply zk)
  apply zr
  intro _
  repeat (first|apply zq|apply zb|apply zk)
  refine AWp.mono (Q := fun e s => (e = .ret ∧ Go.Abs.Ends B [.tmp 6] (.i64 (firstF (edtG f m o) o.Edits.length)) .ret s) ∨ (e = .normal ∧ ¬ (0 < k ∧ edP (o.Edits.getD (k - 1) default) (o.Edits.getD k default)) ∧ Sub ⟨[(3, .ptr f.cells), (4, .ptr m.cells), (5, .ptr o.cells), (7, .i64 (sumM o.Edits k)), (9, .ptr (o.Edits.getD k default).cells), (15, roL 3 Edt.cells o.Edits), (16, .i64 o.Edits.length), (17, .i64 k)], []⟩ s)) ?_ ?_
  ·repeat (first|apply zq|apply zb|apply zk)
   refine AWp.cond (And.intro (fun h3 => ?_) (fun h3 => ?_))
   ·have hk0 : 0 < k := by have := of_decide_eq_true h3; omega
    have hw : IntKind.i64.wrap ((k : Int) - 1) = ((k - 1 : Nat) : Int) := by rw [wrap_in (by omega) (by unfold maxLen at hlen; omega)]; omega
    repeat (first|apply zq|apply zb|apply zk)
    apply zr
    refine And.intro (fun _ => by show 0 ≤ IntKind.i64.wrap ((k : Int) - 1) ∧ IntKind.i64.wrap ((k : Int) - 1) < (o.Edits.length : Int); rw [hw]; omega) ?_
    intro _
    refine AWp.freezeObj 10 rfl rfl ?_
    repeat (first|apply zq|apply zb|apply zk)
    apply zr
    repeat' refine And.intro ?_ ?_
    all_goals first|exact fun h => h|exact gT|exact gF|exact gN|exact gA|skip
    intro _
    repeat (first|apply zq|apply zb|apply zk)
    refine AWp.cond (And.intro (fun h4 => ?_) (fun h4 => ?_))
    ·have e : edtG f m o k = 4 := edtG_2 h2' (by refine ⟨hk0, ?_⟩; clear hg hit; simp only [bif_if, hw, Int.toNat_natCast] at h4; unfold edP; grind)
     repeat (first|apply zq|apply zb|apply zk)
     apply zr
     intro _
     refine AWp.ret ?_
     refine Or.inl ⟨rfl, Or.inl rfl, rfl, ?_⟩
     intro _
     exact tupI (hit e (by decide))
    ·refine AWp.skip ?_
     refine Or.inr ⟨rfl, (by clear hg hit; simp only [bif_if, hw, Int.toNat_natCast] at h4; unfold edP; grind), ?_⟩
     repeat' (first|exact rfl|exact trivial|refine And.intro ?_ ?_)
   ·refine AWp.skip ?_
    refine Or.inr ⟨rfl, fun h => absurd (of_decide_eq_false h3) (by have := h.1; omega), ?_⟩
    repeat' (first|exact rfl|exact trivial|refine And.intro ?_ ?_)
  rintro e s hes
  rcases hes with ⟨rfl, he⟩ | ⟨rfl, h3, hs⟩
  ·exact he
  refine AWp.weaken hs ?_
  have hw : IntKind.i64.wrap ((sumM o.Edits k : Int) + ((o.Edits.getD k default).Moves.length : Int)) = (sumM o.Edits (k + 1) : Int) := by
   rw [wrap_in (by omega) (by omega)]; rfl
  repeat (first|apply zq|apply zb|apply zk)
  apply zr
  intro _
  repeat (first|apply zq|apply zb|apply zk)
  apply zr
  intro _
  repeat (first|apply zq|apply zb|apply zk)
  refine AWp.cond (And.intro (fun h4 => ?_) (fun h4 => ?_))
  ·have e : edtG f m o k = 1 := edtG_3 h2' h3 (by have h4 : decide (IntKind.i64.wrap ((sumM o.Edits k : Int) + ((o.Edits.getD k default).Moves.length : Int)) > 20000) = true := h4; rw [hw] at h4; have := of_decide_eq_true h4; omega)
   repeat (first|apply zq|apply zb|apply zk)
   apply zr
   intro _
   refine AWp.ret ⟨Or.inl rfl, rfl, ?_⟩
   intro _
   exact tupI (hit e (by decide))
  have h4' : ¬ 20000 < sumM o.Edits (k + 1) := by have h4 : decide (IntKind.i64.wrap ((sumM o.Edits k : Int) + ((o.Edits.getD k default).Moves.length : Int)) > 20000) = false := h4; rw [hw] at h4; have := of_decide_eq_false h4; omega
  have e4 := edtG_4 (m := m) h2' h3 h4'
  repeat (first|apply zq|apply zb|apply zk)
  apply zr
  intro _
  repeat (first|apply zq|apply zb|apply zk)
  refine AWp.loop (fun j : Nat => ⟨[(3, .ptr f.cells), (4, .ptr m.cells), (5, .ptr o.cells), (7, .i64 (sumM o.Edits (k + 1))), (15, roL 3 Edt.cells o.Edits), (16, .i64 o.Edits.length), (17, .i64 k), (86, roL 6 Mov.cells (o.Edits.getD k default).Moves), (87, .i64 (o.Edits.getD k default).Moves.length), (88, .i64 j)], []⟩) (fun j => j ≤ (o.Edits.getD k default).Moves.length ∧ ∀ j', j' < j → movG m o.Frame (o.Edits.getD k default) j' = 0) (fun j => (o.Edits.getD k default).Moves.length - j) 0 ⟨Nat.zero_le _, fun j hj => absurd hj (by omega)⟩ ?_ ?_
  ·repeat' (first|exact rfl|exact trivial|exact congrArg (fun z => some (AV.i64 z)) hw|refine And.intro ?_ ?_)
  rintro j ⟨hj, hgj⟩
  repeat (first|apply zq|apply zb|apply zk)
  apply zr
  intro _
  repeat (first|apply zq|apply zb|apply zk)
  refine AWp.cond (And.intro (fun h5 => ?_) (fun h5 => ?_))
  ·have hj' : j < (o.Edits.getD k default).Moves.length := Int.ofNat_lt.1 (of_decide_eq_true h5)
   repeat (first|apply zq|apply zb|apply zk)
   apply zr
   refine And.intro (fun _ => nn (hj')) ?_
   intro _
   refine AWp.freezeObj 12 rfl rfl ?_
   repeat (first|apply zq|apply zb|apply zk)
   apply zr
   refine CallX.pure (c_move m o ((o.Edits.getD k default).Moves.getD j default)) rfl rfl rfl ?_
   intro _
   repeat (first|apply zq|apply zb|apply zk)
   apply zr
   intro _
   repeat (first|apply zq|apply zb|apply zk)
   refine AWp.cond (And.intro (fun h6 => ?_) (fun h6 => ?_))
   ·have h6' : movG m o.Frame (o.Edits.getD k default) j ≠ 0 := by
     have h6 : (movF m o.Frame ((o.Edits.getD k default).Moves.getD j default) != 0) = true := h6
     simpa [movG] using h6
    have e : edtG f m o k = movG m o.Frame (o.Edits.getD k default) j := e4.trans (firstF_hit (k := j) hj' hgj h6')
    repeat (first|apply zq|apply zb|apply zk)
    apply zr
    intro _
    refine AWp.ret ⟨Or.inl rfl, rfl, ?_⟩
    intro _
    exact tupI (hit e h6')
   ·have h6' : movG m o.Frame (o.Edits.getD k default) j = 0 := by
     have h6 : (movF m o.Frame ((o.Edits.getD k default).Moves.getD j default) != 0) = false := h6
     simpa [movG] using h6
    repeat (first|apply zq|apply zb|apply zk)
    apply zr
    intro _
    exact round_end (j + 1) ⟨hj', upto hgj h6'⟩ (by repeat' (first|exact rfl|exact trivial|exact congrArg (fun z => some (AV.i64 z)) (wrap_succ hj' hmx)|refine And.intro ?_ ?_)) (by omega)
  have hj3 : ¬ (j : Int) < (o.Edits.getD k default).Moves.length := of_decide_eq_false h5
  apply ze
  repeat (first|apply zq|apply zb|apply zk)
  apply zr
  intro _
  have e : edtG f m o k = 0 := e4.trans (firstF_none fun j' h => hgj j' (by omega))
  exact round_end (k + 1) ⟨hk', by omega, upto hg e⟩ (by repeat' (first|exact rfl|exact trivial|exact congrArg (fun z => some (AV.i64 z)) (wrap_succ hk' hlen)|refine And.intro ?_ ?_)) (by omega)
 have hk3 : ¬ (k : Int) < o.Edits.length := of_decide_eq_false h1
 apply ze
 repeat (first|apply zq|apply zb|apply zk)
 apply zr
 intro _
 refine AWp.ret ⟨Or.inl rfl, rfl, ?_⟩
 intro _
 exact tupI (firstF_none fun j h => hg j (by omega)).symm
end Go.Proofs.Ytjjgjflbhpoloaa
/- Contract of mach.Check. Condition: arguments as they come in. -/
namespace Go.Proofs.Ytjjgjflbhpoloaa
open Go Go.Abs Go.RowKit
theorem flw_siz {f : Fun} {m : Mch} (h0 : flwF f m = 0) : EdgOk f :=
 (chkd_of (show chkF f m = 0 from Classical.byContradiction fun hn => by rw [flwF_1 hn] at h0; exact hn h0)).e
theorem flw_mach {f : Fun} {m : Mch} (h0 : flwF f m = 0) : machF m = 0 := by
 have h : chkF f m = 0 := Classical.byContradiction fun hn => by rw [flwF_1 hn] at h0; exact hn h0
 exact Classical.byContradiction fun hn => hn (by rw [chkF_1 hn] at h; exact h)
theorem neB {a b : Nat} (h : ((a : Int) != (b : Int)) = true) : a ≠ b := fun e => by subst e; simp at h
theorem eqB {a b : Nat} (h : ((a : Int) != (b : Int)) = false) : ¬ a ≠ b := fun hn => hn (Int.ofNat.inj (by simpa using h))
set_option maxHeartbeats 2000000 in
theorem c_MachCheck (f : Fun) (m : Mch) (o : Oup) (hf : Fun.ok f) (hok : Oup.ok o) : ACallIs B.P 49 [f.av, m.av, o.av] (.i64 (outF f m o)) := by
 have hc := c_FlowCheck f m hf
 refine ACallIs.enter B _ _ Try.func49 rfl rfl Try.ntmps49 Try.results49 rfl fun hreal => ?_
 clear hreal
 repeat (first|apply zq|apply zb|apply zk)
 apply zr
 intro _
 refine AWp.freezeObj 3 rfl rfl ?_
 refine AWp.freezeObj 4 rfl rfl ?_
 refine AWp.freezeObj 5 rfl rfl ?_
 repeat (first|apply zq|apply zb|apply zk)
 apply zr
 refine CallX.pure hc rfl rfl rfl ?_
 intro _
 repeat (first|apply zq|apply zb|apply zk)
 apply zr
 intro _
 repeat (first|apply zq|apply zb|apply zk)
 refine AWp.cond (And.intro (fun h1 => ?_) (fun h1 => ?_))
 ·have h0 : flwF f m ≠ 0 := by
   have h1 : (flwF f m != 0) = true := h1
   simpa using h1
  repeat (first|apply zq|apply zb|apply zk)
  apply zr
  intro _
  refine AWp.ret ⟨Or.inl rfl, rfl, ?_⟩
  intro _
  exact tupI (outF_1 h0).symm
 have h0 : flwF f m = 0 := by
  have h1 : (flwF f m != 0) = false := h1
  simpa using h1
 have hz := (flw_siz h0).siz
 have hb := hz.blocks
 repeat (first|apply zq|apply zb|apply zk)
 apply zr
 repeat' refine And.intro ?_ ?_
 all_goals first|exact fun h => h|exact gT|exact gF|exact gN|skip
 intro _
 repeat (first|apply zq|apply zb|apply zk)
 refine AWp.cond (And.intro (fun h2 => ?_) (fun h2 => ?_))
 ·have h2' : o.Frame < 0 ∨ 1000 < o.Frame := by clear hc; simp only [bif_if] at h2; grind
  repeat (first|apply zq|apply zb|apply zk)
  apply zr
  intro _
  refine AWp.ret ⟨Or.inl rfl, rfl, ?_⟩
  intro _
  exact tupI (outF_2 h0 h2').symm
 have h2' : ¬ (o.Frame < 0 ∨ 1000 < o.Frame) := by clear hc; simp only [bif_if] at h2; grind
 repeat (first|apply zq|apply zb|apply zk)
 apply zr
 intro _
 repeat (first|apply zq|apply zb|apply zk)
 refine AWp.cond (And.intro (fun h3 => ?_) (fun h3 => ?_))
 ·repeat (first|apply zq|apply zb|apply zk)
  apply zr
  intro _
  refine AWp.ret ⟨Or.inl rfl, rfl, ?_⟩
  intro _
  exact tupI (outF_3 h0 h2' (neB h3)).symm
 have h3' := eqB h3
 have h3e : o.Places.length = f.Blocks.length := by omega
 repeat (first|apply zq|apply zb|apply zk)
 apply zr
 intro _
 repeat (first|apply zq|apply zb|apply zk)
 refine AWp.loop (fun k : Nat => ⟨[(3, .ptr f.cells), (4, .ptr m.cells), (5, .ptr o.cells), (36, roL 3 Blk.cells f.Blocks), (37, .i64 f.Blocks.length), (38, .i64 k)], []⟩) (fun k => k ≤ f.Blocks.length ∧ ∀ j, j < k → bkG f m o j = 0) (fun k => f.Blocks.length - k) 0 ⟨Nat.zero_le _, fun j hj => absurd hj (by omega)⟩ ?_ ?_
 ·repeat' (first|exact rfl|exact trivial|refine And.intro ?_ ?_)
 rintro k ⟨hk, hg⟩
 repeat (first|apply zq|apply zb|apply zk)
 apply zr
 intro _
 repeat (first|apply zq|apply zb|apply zk)
 refine AWp.cond (And.intro (fun h4 => ?_) (fun h4 => ?_))
 ·have hk' : k < f.Blocks.length := Int.ofNat_lt.1 (of_decide_eq_true h4)
  have hbl : f.Blocks.length ≤ maxLen := by unfold maxLen; omega
  have hkp : k < o.Places.length := by omega
  have hil : (f.Blocks.getD k default).Instrs.length ≤ maxLen := by have := hz.instrs k hk'; unfold maxLen; omega
  have hit : ∀ {v : Int}, bkG f m o k = v → v ≠ 0 → v = outF f m o := fun e hv => (outF_4 h0 h2' h3' ((firstF_hit (k := k) hk' hg (by rw [e]; exact hv)).trans e) hv).symm
  repeat (first|apply zq|apply zb|apply zk)
  apply zr
  refine And.intro (fun _ => nn (hk')) ?_
  intro _
  refine AWp.freezeObj 9 rfl rfl ?_
  repeat (first|apply zq|apply zb|apply zk)
  refine AWp.draw mixed (by kernel_rfl) ?_
  refine And.intro (fun _ => nn (hkp)) ?_
  intro _
  repeat (first|apply zq|apply zb|apply zk)
  refine AWp.cond (And.intro (fun h5 => ?_) (fun h5 => ?_))
  ·repeat (first|apply zq|apply zb|apply zk)
   apply zr
   intro _
   refine AWp.ret ⟨Or.inl rfl, rfl, ?_⟩
   intro _
   exact tupI (hit (bkG_1 (neB h5)) (by decide))
  have h5' : ¬ (o.Places.getD k default).length ≠ (f.Blocks.getD k default).Instrs.length := eqB h5
  have h5e : (o.Places.getD k default).length = (f.Blocks.getD k default).Instrs.length := Classical.byContradiction fun h => h5' h
  have e5 := bkG_2 (f := f) (m := m) h5'
  repeat (first|apply zq|apply zb|apply zk)
  apply zr
  intro _
  repeat (first|apply zq|apply zb|apply zk)
  refine AWp.loop (fun i : Nat => ⟨[(3, .ptr f.cells), (4, .ptr m.cells), (5, .ptr o.cells), (8, .i64 k), (36, roL 3 Blk.cells f.Blocks), (37, .i64 f.Blocks.length), (38, .i64 k), (54, roL 3 Ins.cells (f.Blocks.getD k default).Instrs), (55, .i64 (f.Blocks.getD k default).Instrs.length), (56, .i64 i)], []⟩) (fun i => i ≤ (f.Blocks.getD k default).Instrs.length ∧ ∀ j, j < i → inG f m o k j = 0) (fun i => (f.Blocks.getD k default).Instrs.length - i) 0 ⟨Nat.zero_le _, fun j hj => absurd hj (by omega)⟩ ?_ ?_
  ·repeat' (first|exact rfl|exact trivial|refine And.intro ?_ ?_)
  rintro i ⟨hi, hgi⟩
  repeat (first|apply zq|apply zb|apply zk)
  apply zr
  intro _
  repeat (first|apply zq|apply zb|apply zk)
  refine AWp.cond (And.intro (fun h6 => ?_) (fun h6 => ?_))
  ·have hi' : i < (f.Blocks.getD k default).Instrs.length := Int.ofNat_lt.1 (of_decide_eq_true h6)
   have hip : i < (o.Places.getD k default).length := by omega
   have hcl := cell_len hok hkp hip
   have hiti : ∀ {v : Int}, inG f m o k i = v → v ≠ 0 → bkG f m o k = v := fun e hv => e5.trans ((firstF_hit (k := i) hi' hgi (by rw [e]; exact hv)).trans e)
   repeat (first|apply zq|apply zb|apply zk)
   apply zr
   refine And.intro (fun _ => nn (hi')) ?_
   intro _
   refine AWp.freezeObj 11 rfl rfl ?_
   repeat (first|apply zq|apply zb|apply zk)
   refine AWp.draw mixed (by kernel_rfl) ?_
   refine And.intro (fun _ => nn (hkp)) ?_
   refine And.intro (fun _ => nn (hip)) ?_
   intro _
   repeat (first|apply zq|apply zb|apply zk)
   refine AWp.cond (And.intro (fun h7 => ?_) (fun h7 => ?_))
   ·repeat (first|apply zq|apply zb|apply zk)
    apply zr
    intro _
    refine AWp.ret ⟨Or.inl rfl, rfl, ?_⟩
    intro _
    exact tupI (hit (hiti (inG_1 (neB h7)) (by decide)) (by decide))
   have h7' : ¬ (plAt o k i).length ≠ ((f.Blocks.getD k default).Instrs.getD i default).Operands.length := eqB h7
   have e7 := inG_2 (m := m) h7'
   repeat (first|apply zq|apply zb|apply zk)
   apply zr
   refine And.intro (fun _ => nn (hkp)) ?_
   refine And.intro (fun _ => nn (hip)) ?_
   intro _
   repeat (first|apply zq|apply zb|apply zk)
   refine AWp.loop (fun j : Nat => ⟨[(3, .ptr f.cells), (4, .ptr m.cells), (5, .ptr o.cells), (8, .i64 k), (36, roL 3 Blk.cells f.Blocks), (37, .i64 f.Blocks.length), (38, .i64 k), (54, roL 3 Ins.cells (f.Blocks.getD k default).Instrs), (55, .i64 (f.Blocks.getD k default).Instrs.length), (56, .i64 i), (81, roL 3 Plc.cells (plAt o k i)), (82, .i64 (plAt o k i).length), (83, .i64 j)], []⟩) (fun j => j ≤ (plAt o k i).length ∧ ∀ j', j' < j → opG m o.Frame (plAt o k i) j' = 0) (fun j => (plAt o k i).length - j) 0 ⟨Nat.zero_le _, fun j hj => absurd hj (by omega)⟩ ?_ ?_
   ·repeat' (first|exact rfl|exact trivial|refine And.intro ?_ ?_)
   rintro j ⟨hj, hgj⟩
   repeat (first|apply zq|apply zb|apply zk)
   apply zr
   intro _
   repeat (first|apply zq|apply zb|apply zk)
   refine AWp.cond (And.intro (fun h8 => ?_) (fun h8 => ?_))
   ·have hj' : j < (plAt o k i).length := Int.ofNat_lt.1 (of_decide_eq_true h8)
    repeat (first|apply zq|apply zb|apply zk)
    apply zr
    refine And.intro (fun _ => nn (hj')) ?_
    intro _
    refine AWp.freezeObj 13 rfl rfl ?_
    repeat (first|apply zq|apply zb|apply zk)
    apply zr
    refine CallX.pure (c_place m o ((plAt o k i).getD j default)) rfl rfl rfl ?_
    intro _
    repeat (first|apply zq|apply zb|apply zk)
    refine AWp.cond (And.intro (fun h9 => ?_) (fun h9 => ?_))
    ·have h9' : placeF m o.Frame ((plAt o k i).getD j default) = false := by
      have h9 : (!placeF m o.Frame ((plAt o k i).getD j default)) = true := h9
      simpa using h9
     have e9 : opG m o.Frame (plAt o k i) j = 2 := by unfold opG; rw [h9']; rfl
     repeat (first|apply zq|apply zb|apply zk)
     apply zr
     intro _
     refine AWp.ret ⟨Or.inl rfl, rfl, ?_⟩
     intro _
     exact tupI (hit (hiti (e7.trans ((firstF_hit (k := j) hj' hgj (by rw [e9]; decide)).trans e9)) (by decide)) (by decide))
    ·have h9' : placeF m o.Frame ((plAt o k i).getD j default) = true := by
      have h9 : (!placeF m o.Frame ((plAt o k i).getD j default)) = false := h9
      simpa using h9
     have e9 : opG m o.Frame (plAt o k i) j = 0 := by unfold opG; rw [h9']; rfl
     repeat (first|apply zq|apply zb|apply zk)
     apply zr
     intro _
     exact round_end (j + 1) ⟨hj', upto hgj e9⟩ (by repeat' (first|exact rfl|exact trivial|exact congrArg (fun z => some (AV.i64 z)) (wrap_succ hj' hcl)|refine And.intro ?_ ?_)) (by omega)
   have hj3 : ¬ (j : Int) < (plAt o k i).length := of_decide_eq_false h8
   apply ze
   repeat (first|apply zq|apply zb|apply zk)
   apply zr
   intro _
   have e : inG f m o k i = 0 := e7.trans (firstF_none fun j' h => hgj j' (by omega))
   exact round_end (i + 1) ⟨hi', upto hgi e⟩ (by repeat' (first|exact rfl|exact trivial|exact congrArg (fun z => some (AV.i64 z)) (wrap_succ hi' hil)|refine And.intro ?_ ?_)) (by omega)
  have hi3 : ¬ (i : Int) < (f.Blocks.getD k default).Instrs.length := of_decide_eq_false h6
  apply ze
  repeat (first|apply zq|apply zb|apply zk)
  apply zr
  intro _
  have e : bkG f m o k = 0 := e5.trans (firstF_none fun j' h => hgi j' (by omega))
  exact round_end (k + 1) ⟨hk', upto hg e⟩ (by repeat' (first|exact rfl|exact trivial|exact congrArg (fun z => some (AV.i64 z)) (wrap_succ hk' hbl)|refine And.intro ?_ ?_)) (by omega)
 have hk3 : ¬ (k : Int) < f.Blocks.length := of_decide_eq_false h4
 apply ze
 repeat (first|apply zq|apply zb|apply zk)
 apply zr
 refine CallX.pure (c_edits f m o hok) rfl rfl rfl ?_
 intro _
 refine AWp.ret ⟨Or.inl rfl, rfl, ?_⟩
 intro _
 exact tupI (outF_5 h0 h2' h3' (firstF_none fun j h => hg j (by omega))).symm
end Go.Proofs.Ytjjgjflbhpoloaa
/- Contract of the document's OutputFault. Condition: arguments as they come in. -/
namespace Go.Proofs.Ytjjgjflbhpoloaa
open Go Go.Abs Go.RowKit
set_option maxHeartbeats 4000000 in
theorem c_OutputFault (f : Fun) (m : Mch) (o : Oup) (hf : Fun.ok f) (hok : Oup.ok o) : ACallIs B.P 55 [f.av, m.av, o.av] (.i64 (outF f m o)) := by
 have hc := c_FuncFault f m hf
 have hlen := edits_len hok
 refine ACallIs.enter B _ _ Try.func55 rfl rfl Try.ntmps55 Try.results55 rfl fun hreal => ?_
 clear hreal
 repeat (first|apply zq|apply zb|apply zk)
 apply zr
 intro _
 refine AWp.freezeObj 3 rfl rfl ?_
 refine AWp.freezeObj 4 rfl rfl ?_
 refine AWp.freezeObj 5 rfl rfl ?_
 repeat (first|apply zq|apply zb|apply zk)
 apply zr
 refine CallX.pure hc rfl rfl rfl ?_
 intro _
 repeat (first|apply zq|apply zb|apply zk)
 apply zr
 intro _
 repeat (first|apply zq|apply zb|apply zk)
 refine AWp.cond (And.intro (fun h1 => ?_) (fun h1 => ?_))
 ·have h0 : flwF f m ≠ 0 := by
   have h1 : (flwF f m != 0) = true := h1
   simpa using h1
  repeat (first|apply zq|apply zb|apply zk)
  apply zr
  intro _
  refine AWp.ret ⟨Or.inl rfl, rfl, ?_⟩
  intro _
  exact tupI (outF_1 h0).symm
 have h0 : flwF f m = 0 := by
  have h1 : (flwF f m != 0) = false := h1
  simpa using h1
 have hz := (flw_siz h0).siz
 have hm := flw_mach h0
 have hb := hz.blocks
 have hwl : IntKind.i64.wrap ((f.Blocks.length : Int) - 1) = (f.Blocks.length : Int) - 1 := wrap_in (by omega) (by omega)
 repeat (first|apply zq|apply zb|apply zk)
 apply zr
 refine CallX.pure (c_In o.Frame 0 1000) rfl rfl rfl ?_
 intro _
 repeat (first|apply zq|apply zb|apply zk)
 refine AWp.cond (And.intro (fun h2 => ?_) (fun h2 => ?_))
 ·have h2' : o.Frame < 0 ∨ 1000 < o.Frame := by clear hc; have h2 : (!inB o.Frame 0 1000) = true := h2; unfold inB at h2; grind
  repeat (first|apply zq|apply zb|apply zk)
  apply zr
  intro _
  refine AWp.ret ⟨Or.inl rfl, rfl, ?_⟩
  intro _
  exact tupI (outF_2 h0 h2').symm
 have h2' : ¬ (o.Frame < 0 ∨ 1000 < o.Frame) := by clear hc; have h2 : (!inB o.Frame 0 1000) = false := h2; unfold inB at h2; grind
 have hfr : 0 ≤ o.Frame ∧ o.Frame ≤ 1000 := by omega
 repeat (first|apply zq|apply zb|apply zk)
 apply zr
 intro _
 repeat (first|apply zq|apply zb|apply zk)
 refine AWp.cond (And.intro (fun h3 => ?_) (fun h3 => ?_))
 ·repeat (first|apply zq|apply zb|apply zk)
  apply zr
  intro _
  refine AWp.ret ⟨Or.inl rfl, rfl, ?_⟩
  intro _
  exact tupI (outF_3 h0 h2' (neB h3)).symm
 have h3' : ¬ o.Places.length ≠ f.Blocks.length := eqB h3
 have h3e : o.Places.length = f.Blocks.length := by omega
 repeat (first|apply zq|apply zb|apply zk)
 apply zr
 intro _
 repeat (first|apply zq|apply zb|apply zk)
 refine AWp.loop (fun k : Nat => ⟨[(3, .ptr f.cells), (4, .ptr m.cells), (5, .ptr o.cells), (8, .i64 k)], []⟩) (fun k => k ≤ f.Blocks.length ∧ ∀ j, j < k → bkG f m o j = 0) (fun k => f.Blocks.length - k) 0 ⟨Nat.zero_le _, fun j hj => absurd hj (by omega)⟩ ?_ ?_
 ·repeat' (first|exact rfl|exact trivial|refine And.intro ?_ ?_)
 rintro k ⟨hk, hg⟩
 repeat (first|apply zq|apply zb|apply zk)
 apply zr
 intro _
 repeat (first|apply zq|apply zb|apply zk)
 refine AWp.cond (And.intro (fun h4 => ?_) (fun h4 => ?_))
 ·have hk' : k < f.Blocks.length := Int.ofNat_lt.1 (of_decide_eq_true h4)
  have hbl : f.Blocks.length ≤ maxLen := by unfold maxLen; omega
  have hkp : k < o.Places.length := by omega
  have hil : (f.Blocks.getD k default).Instrs.length ≤ maxLen := by have := hz.instrs k hk'; unfold maxLen; omega
  have hit : ∀ {v : Int}, bkG f m o k = v → v ≠ 0 → v = outF f m o := fun e hv => (outF_4 h0 h2' h3' ((firstF_hit (k := k) hk' hg (by rw [e]; exact hv)).trans e) hv).symm
  repeat (first|apply zq|apply zb|apply zk)
  apply zr
  refine And.intro (fun _ => nn (hk')) ?_
  intro _
  repeat (first|apply zq|apply zb|apply zk)
  apply zr
  refine And.intro (fun _ => nn (hkp)) ?_
  intro _
  repeat (first|apply zq|apply zb|apply zk)
  refine AWp.cond (And.intro (fun h5 => ?_) (fun h5 => ?_))
  ·repeat (first|apply zq|apply zb|apply zk)
   apply zr
   intro _
   refine AWp.ret ⟨Or.inl rfl, rfl, ?_⟩
   intro _
   exact tupI (hit (bkG_1 (neB h5)) (by decide))
  have h5' : ¬ (o.Places.getD k default).length ≠ (f.Blocks.getD k default).Instrs.length := eqB h5
  have h5e : (o.Places.getD k default).length = (f.Blocks.getD k default).Instrs.length := Classical.byContradiction fun h => h5' h
  have e5 := bkG_2 (f := f) (m := m) h5'
  repeat (first|apply zq|apply zb|apply zk)
  apply zr
  intro _
  repeat (first|apply zq|apply zb|apply zk)
  refine AWp.loop (fun i : Nat => ⟨[(3, .ptr f.cells), (4, .ptr m.cells), (5, .ptr o.cells), (8, .i64 k), (9, roL 3 Ins.cells (f.Blocks.getD k default).Instrs), (10, .i64 i)], []⟩) (fun i => i ≤ (f.Blocks.getD k default).Instrs.length ∧ ∀ j, j < i → inG f m o k j = 0) (fun i => (f.Blocks.getD k default).Instrs.length - i) 0 ⟨Nat.zero_le _, fun j hj => absurd hj (by omega)⟩ ?_ ?_
  ·repeat' (first|exact rfl|exact trivial|refine And.intro ?_ ?_)
  rintro i ⟨hi, hgi⟩
  repeat (first|apply zq|apply zb|apply zk)
  apply zr
  intro _
  repeat (first|apply zq|apply zb|apply zk)
  refine AWp.cond (And.intro (fun h6 => ?_) (fun h6 => ?_))
  ·have hi' : i < (f.Blocks.getD k default).Instrs.length := Int.ofNat_lt.1 (of_decide_eq_true h6)
   have hip : i < (o.Places.getD k default).length := by omega
   have hcl := cell_len hok hkp hip
   have hiti : ∀ {v : Int}, inG f m o k i = v → v ≠ 0 → bkG f m o k = v := fun e hv => e5.trans ((firstF_hit (k := i) hi' hgi (by rw [e]; exact hv)).trans e)
   repeat (first|apply zq|apply zb|apply zk)
   refine AWp.draw mixed (by kernel_rfl) ?_
   refine And.intro (fun _ => nn (hkp)) ?_
   refine And.intro (fun _ => nn (hip)) ?_
   refine And.intro (fun _ => nn (hi')) ?_
   intro _
   repeat (first|apply zq|apply zb|apply zk)
   refine AWp.cond (And.intro (fun h7 => ?_) (fun h7 => ?_))
   ·repeat (first|apply zq|apply zb|apply zk)
    apply zr
    intro _
    refine AWp.ret ⟨Or.inl rfl, rfl, ?_⟩
    intro _
    exact tupI (hit (hiti (inG_1 (neB h7)) (by decide)) (by decide))
   have h7' : ¬ (plAt o k i).length ≠ ((f.Blocks.getD k default).Instrs.getD i default).Operands.length := eqB h7
   have h7e : (plAt o k i).length = ((f.Blocks.getD k default).Instrs.getD i default).Operands.length := Classical.byContradiction fun h => h7' h
   have e7 := inG_2 (m := m) h7'
   repeat (first|apply zq|apply zb|apply zk)
   apply zr
   intro _
   repeat (first|apply zq|apply zb|apply zk)
   refine AWp.loop (fun j : Nat => ⟨[(3, .ptr f.cells), (4, .ptr m.cells), (5, .ptr o.cells), (8, .i64 k), (9, roL 3 Ins.cells (f.Blocks.getD k default).Instrs), (10, .i64 i), (11, .i64 j)], []⟩) (fun j => j ≤ (plAt o k i).length ∧ ∀ j', j' < j → opG m o.Frame (plAt o k i) j' = 0) (fun j => (plAt o k i).length - j) 0 ⟨Nat.zero_le _, fun j hj => absurd hj (by omega)⟩ ?_ ?_
   ·repeat' (first|exact rfl|exact trivial|refine And.intro ?_ ?_)
   rintro j ⟨hj, hgj⟩
   repeat (first|apply zq|apply zb|apply zk)
   apply zr
   refine And.intro (fun _ => nn (hi')) ?_
   intro _
   repeat (first|apply zq|apply zb|apply zk)
   refine AWp.cond (And.intro (fun h8 => ?_) (fun h8 => ?_))
   ·have hj' : j < (plAt o k i).length := by rw [h7e]; exact Int.ofNat_lt.1 (of_decide_eq_true h8)
    have hpm := c_placeMay m hm o.Frame hfr ((plAt o k i).getD j default) false
    repeat (first|apply zq|apply zb|apply zk)
    refine AWp.draw mixed (by kernel_rfl) ?_
    refine And.intro (fun _ => nn (hkp)) ?_
    refine And.intro (fun _ => nn (hip)) ?_
    refine And.intro (fun _ => nn (hj')) ?_
    refine CallK.intro (fun _ => hpm) ?_
    intro _
    repeat (first|apply zq|apply zb|apply zk)
    refine AWp.cond (And.intro (fun h9 => ?_) (fun h9 => ?_))
    ·have h9' : placeF m o.Frame ((plAt o k i).getD j default) = false := by
      have h9 : (!placeF m o.Frame ((plAt o k i).getD j default)) = true := h9
      simpa using h9
     have e9 : opG m o.Frame (plAt o k i) j = 2 := by unfold opG; rw [h9']; rfl
     repeat (first|apply zq|apply zb|apply zk)
     apply zr
     intro _
     refine AWp.ret ⟨Or.inl rfl, rfl, ?_⟩
     intro _
     exact tupI (hit (hiti (e7.trans ((firstF_hit (k := j) hj' hgj (by rw [e9]; decide)).trans e9)) (by decide)) (by decide))
    ·have h9' : placeF m o.Frame ((plAt o k i).getD j default) = true := by
      have h9 : (!placeF m o.Frame ((plAt o k i).getD j default)) = false := h9
      simpa using h9
     have e9 : opG m o.Frame (plAt o k i) j = 0 := by unfold opG; rw [h9']; rfl
     repeat (first|apply zq|apply zb|apply zk)
     apply zr
     intro _
     exact round_end (j + 1) ⟨hj', upto hgj e9⟩ (by repeat' (first|exact rfl|exact trivial|exact congrArg (fun z => some (AV.i64 z)) (wrap_succ hj' hcl)|refine And.intro ?_ ?_)) (by omega)
   have hj3 : ¬ j < (plAt o k i).length := by rw [h7e]; exact fun h => of_decide_eq_false h8 (Int.ofNat_lt.2 h)
   apply ze
   repeat (first|apply zq|apply zb|apply zk)
   apply zr
   intro _
   have e : inG f m o k i = 0 := e7.trans (firstF_none fun j' h => hgj j' (by omega))
   exact round_end (i + 1) ⟨hi', upto hgi e⟩ (by repeat' (first|exact rfl|exact trivial|exact congrArg (fun z => some (AV.i64 z)) (wrap_succ hi' hil)|refine And.intro ?_ ?_)) (by omega)
  have hi3 : ¬ (i : Int) < (f.Blocks.getD k default).Instrs.length := of_decide_eq_false h6
  apply ze
  repeat (first|apply zq|apply zb|apply zk)
  apply zr
  intro _
  have e : bkG f m o k = 0 := e5.trans (firstF_none fun j' h => hgi j' (by omega))
  exact round_end (k + 1) ⟨hk', upto hg e⟩ (by repeat' (first|exact rfl|exact trivial|exact congrArg (fun z => some (AV.i64 z)) (wrap_succ hk' hbl)|refine And.intro ?_ ?_)) (by omega)
 have hk3 : ¬ (k : Int) < f.Blocks.length := of_decide_eq_false h4
 apply ze
 have h5 : firstF (bkG f m o) f.Blocks.length = 0 := firstF_none fun j h => hg j (by omega)
 have hO := outF_5 h0 h2' h3' h5
 clear hk3 hg hk h4 h5
 repeat (first|apply zq|apply zb|apply zk)
 apply zr
 intro _
 repeat (first|apply zq|apply zb|apply zk)
 apply zr
 intro _
 repeat (first|apply zq|apply zb|apply zk)
 refine AWp.loop (fun k : Nat => ⟨[(3, .ptr f.cells), (4, .ptr m.cells), (5, .ptr o.cells), (12, .i64 (sumM o.Edits k)), (13, .i64 k)], []⟩) (fun k => k ≤ o.Edits.length ∧ sumM o.Edits k ≤ 20000 ∧ ∀ j, j < k → edtG f m o j = 0) (fun k => o.Edits.length - k) 0 ⟨Nat.zero_le _, Nat.zero_le _, fun j hj => absurd hj (by omega)⟩ ?_ ?_
 ·repeat' (first|exact rfl|exact trivial|refine And.intro ?_ ?_)
 rintro k ⟨hk, hsm, hg⟩
 repeat (first|apply zq|apply zb|apply zk)
 apply zr
 intro _
 repeat (first|apply zq|apply zb|apply zk)
 refine AWp.cond (And.intro (fun h1 => ?_) (fun h1 => ?_))
 ·have hk' : k < o.Edits.length := Int.ofNat_lt.1 (of_decide_eq_true h1)
  have hml := moves_len hok hk'
  have hmx : (o.Edits.getD k default).Moves.length ≤ maxLen := by unfold maxLen; omega
  have hit : ∀ {v : Int}, edtG f m o k = v → v ≠ 0 → v = outF f m o := fun e hv => ((hO.trans (firstF_hit (k := k) hk' hg (by rw [e]; exact hv))).trans e).symm
  have hwk : 0 < k → IntKind.i64.wrap ((k : Int) - 1) = ((k - 1 : Nat) : Int) := fun h => by rw [wrap_in (by omega) (by unfold maxLen at hlen; omega)]; omega
  repeat (first|apply zq|apply zb|apply zk)
  apply zr
  refine And.intro (fun _ => nn (hk')) ?_
  intro _
  refine AWp.freezeObj 14 rfl rfl ?_
  repeat (first|apply zq|apply zb|apply zk)
  refine AWp.draw mixed (by kernel_rfl) ?_
  repeat' (first|refine And.intro ?_ ?_|refine CallK.intro (fun _ => c_In _ _ _) ?_)
  all_goals first|exact fun h => h|exact gT|exact gF|exact gN|exact gA|exact fun h => And.intro (by simp only [inB, hwl, Int.toNat_natCast] at h; grind) (by simp only [inB, hwl, Int.toNat_natCast] at h; grind)|skip
  intro _
  repeat (first|apply zq|apply zb|apply zk)
  refine AWp.cond (And.intro (fun h2 => ?_) (fun h2 => ?_))
  ·have e : edtG f m o k = 2 := edtG_1 (by clear hg hit hO; simp only [bif_if, inB, hwl, Int.toNat_natCast] at h2; unfold edR; grind)
   repeat (first|apply zq|apply zb|apply zk)
   apply zr
   intro _
   refine AWp.ret ⟨Or.inl rfl, rfl, ?_⟩
   intro _
   exact tupI (hit e (by decide))
  have h2'' : ¬ edR f (o.Edits.getD k default) := by clear hg hit hO; simp only [bif_if, inB, hwl, Int.toNat_natCast] at h2; unfold edR; grind
  repeat (first|apply zq|apply zb|apply zk)
  refine AWp.draw mixed (by kernel_rfl) ?_
  repeat' refine And.intro ?_ ?_
  all_goals first|exact fun h => h|exact gT|exact gF|exact gN|exact gA|exact fun h => (by have hk0 : 0 < k := (by clear hg hit hO; simp at h; omega); show 0 ≤ IntKind.i64.wrap ((k : Int) - 1) ∧ IntKind.i64.wrap ((k : Int) - 1) < (o.Edits.length : Int); rw [hwk hk0]; omega)|skip
  intro _
  repeat (first|apply zq|apply zb|apply zk)
  refine AWp.cond (And.intro (fun h3 => ?_) (fun h3 => ?_))
  ·have e : edtG f m o k = 4 := edtG_2 h2'' (by
    clear hg hit hO
    by_cases hk0 : 0 < k
    ·refine ⟨hk0, ?_⟩
     simp only [bif_if, hwk hk0, Int.toNat_natCast] at h3; unfold edP; grind
    ·simp only [bif_if, Int.toNat_natCast] at h3; grind)
   repeat (first|apply zq|apply zb|apply zk)
   apply zr
   intro _
   refine AWp.ret ⟨Or.inl rfl, rfl, ?_⟩
   intro _
   exact tupI (hit e (by decide))
  have h3' : ¬ (0 < k ∧ edP (o.Edits.getD (k - 1) default) (o.Edits.getD k default)) := by
   clear hg hit hO
   rintro ⟨hk0, hp⟩
   simp only [bif_if, hwk hk0, Int.toNat_natCast] at h3; unfold edP at hp; grind
  have hw : IntKind.i64.wrap ((sumM o.Edits k : Int) + ((o.Edits.getD k default).Moves.length : Int)) = (sumM o.Edits (k + 1) : Int) := by
   rw [wrap_in (by omega) (by omega)]; rfl
  repeat (first|apply zq|apply zb|apply zk)
  apply zr
  intro _
  repeat (first|apply zq|apply zb|apply zk)
  apply zr
  intro _
  repeat (first|apply zq|apply zb|apply zk)
  refine AWp.cond (And.intro (fun h4 => ?_) (fun h4 => ?_))
  ·have e : edtG f m o k = 1 := edtG_3 h2'' h3' (by have h4 : decide (IntKind.i64.wrap ((sumM o.Edits k : Int) + ((o.Edits.getD k default).Moves.length : Int)) > 20000) = true := h4; rw [hw] at h4; have := of_decide_eq_true h4; omega)
   repeat (first|apply zq|apply zb|apply zk)
   apply zr
   intro _
   refine AWp.ret ⟨Or.inl rfl, rfl, ?_⟩
   intro _
   exact tupI (hit e (by decide))
  have h4' : ¬ 20000 < sumM o.Edits (k + 1) := by have h4 : decide (IntKind.i64.wrap ((sumM o.Edits k : Int) + ((o.Edits.getD k default).Moves.length : Int)) > 20000) = false := h4; rw [hw] at h4; have := of_decide_eq_false h4; omega
  have e4 := edtG_4 (m := m) h2'' h3' h4'
  repeat (first|apply zq|apply zb|apply zk)
  apply zr
  intro _
  repeat (first|apply zq|apply zb|apply zk)
  refine AWp.loop (fun j : Nat => ⟨[(3, .ptr f.cells), (4, .ptr m.cells), (5, .ptr o.cells), (12, .i64 (sumM o.Edits (k + 1))), (13, .i64 k), (14, .ptr (o.Edits.getD k default).cells), (15, .i64 j)], []⟩) (fun j => j ≤ (o.Edits.getD k default).Moves.length ∧ ∀ j', j' < j → movG m o.Frame (o.Edits.getD k default) j' = 0) (fun j => (o.Edits.getD k default).Moves.length - j) 0 ⟨Nat.zero_le _, fun j hj => absurd hj (by omega)⟩ ?_ ?_
  ·repeat' (first|exact rfl|exact trivial|exact congrArg (fun z => some (AV.i64 z)) hw|refine And.intro ?_ ?_)
  rintro j ⟨hj, hgj⟩
  repeat (first|apply zq|apply zb|apply zk)
  apply zr
  intro _
  repeat (first|apply zq|apply zb|apply zk)
  refine AWp.cond (And.intro (fun h5 => ?_) (fun h5 => ?_))
  ·have hj' : j < (o.Edits.getD k default).Moves.length := Int.ofNat_lt.1 (of_decide_eq_true h5)
   have hpf := c_placeMay m hm o.Frame hfr ((o.Edits.getD k default).Moves.getD j default).From true
   have hpt := c_placeMay m hm o.Frame hfr ((o.Edits.getD k default).Moves.getD j default).To true
   have hitj : ∀ {v : Int}, movG m o.Frame (o.Edits.getD k default) j = v → v ≠ 0 → v = outF f m o := fun e hv => hit (e4.trans ((firstF_hit (k := j) hj' hgj (by rw [e]; exact hv)).trans e)) hv
   repeat (first|apply zq|apply zb|apply zk)
   apply zr
   refine And.intro (fun _ => nn (hj')) ?_
   intro _
   refine AWp.freezeObj 16 rfl rfl ?_
   repeat (first|apply zq|apply zb|apply zk)
   apply zr
   refine And.intro (fun _ => nn (hj')) ?_
   intro _
   refine AWp.freezeObj 17 rfl rfl ?_
   repeat (first|apply zq|apply zb|apply zk)
   apply zr
   refine CallX.pure hpf rfl rfl rfl ?_
   repeat' (first|refine And.intro ?_ ?_|refine CallK.intro (fun _ => hpt) ?_)
   all_goals first|exact fun h => h|exact gT|exact gF|exact gN|skip
   intro _
   repeat (first|apply zq|apply zb|apply zk)
   refine AWp.cond (And.intro (fun h6 => ?_) (fun h6 => ?_))
   ·have e6 : movG m o.Frame (o.Edits.getD k default) j = 2 := by
     clear hg hgj hit hitj hO
     simp only [bif_if, if_true] at h6; unfold movG movF; grind
    repeat (first|apply zq|apply zb|apply zk)
    apply zr
    intro _
    refine AWp.ret ⟨Or.inl rfl, rfl, ?_⟩
    intro _
    exact tupI (hitj e6 (by decide))
   have h6' : ¬ (endF m o.Frame ((o.Edits.getD k default).Moves.getD j default).From = false ∨ endF m o.Frame ((o.Edits.getD k default).Moves.getD j default).To = false) := by
    clear hg hgj hit hitj hO
    simp only [bif_if, if_true] at h6; grind
   repeat (first|apply zq|apply zb|apply zk)
   apply zr
   repeat' refine And.intro ?_ ?_
   all_goals first|exact fun h => h|exact gT|exact gF|exact gN|skip
   intro _
   repeat (first|apply zq|apply zb|apply zk)
   refine AWp.cond (And.intro (fun h7 => ?_) (fun h7 => ?_))
   ·have e6 : movG m o.Frame (o.Edits.getD k default) j = 13 := by
     clear hg hgj hit hitj hO h6
     simp only [bif_if, Int.toNat_natCast] at h7; unfold movG movF; rw [if_neg h6']; grind
    repeat (first|apply zq|apply zb|apply zk)
    apply zr
    intro _
    refine AWp.ret ⟨Or.inl rfl, rfl, ?_⟩
    intro _
    exact tupI (hitj e6 (by decide))
   repeat (first|apply zq|apply zb|apply zk)
   apply zr
   repeat' refine And.intro ?_ ?_
   all_goals first|exact fun h => h|exact gT|exact gF|exact gN|skip
   intro _
   repeat (first|apply zq|apply zb|apply zk)
   refine AWp.cond (And.intro (fun h8 => ?_) (fun h8 => ?_))
   ·have e6 : movG m o.Frame (o.Edits.getD k default) j = 17 := by
     clear hg hgj hit hitj hO h6
     simp only [bif_if, Int.toNat_natCast] at h7 h8; unfold movG movF; rw [if_neg h6']; grind
    repeat (first|apply zq|apply zb|apply zk)
    apply zr
    intro _
    refine AWp.ret ⟨Or.inl rfl, rfl, ?_⟩
    intro _
    exact tupI (hitj e6 (by decide))
   have e6 : movG m o.Frame (o.Edits.getD k default) j = 0 := by
    clear hg hgj hit hitj hO h6
    simp only [bif_if, Int.toNat_natCast] at h7 h8; unfold movG movF; rw [if_neg h6']; grind
   repeat (first|apply zq|apply zb|apply zk)
   apply zr
   intro _
   exact round_end (j + 1) ⟨hj', upto hgj e6⟩ (by repeat' (first|exact rfl|exact trivial|exact congrArg (fun z => some (AV.i64 z)) (wrap_succ hj' hmx)|refine And.intro ?_ ?_)) (by omega)
  have hj3 : ¬ (j : Int) < (o.Edits.getD k default).Moves.length := of_decide_eq_false h5
  apply ze
  repeat (first|apply zq|apply zb|apply zk)
  apply zr
  intro _
  have e : edtG f m o k = 0 := e4.trans (firstF_none fun j' h => hgj j' (by omega))
  exact round_end (k + 1) ⟨hk', by omega, upto hg e⟩ (by repeat' (first|exact rfl|exact trivial|exact congrArg (fun z => some (AV.i64 z)) (wrap_succ hk' hlen)|refine And.intro ?_ ?_)) (by omega)
 have hk3 : ¬ (k : Int) < o.Edits.length := of_decide_eq_false h1
 apply ze
 repeat (first|apply zq|apply zb|apply zk)
 apply zr
 intro _
 refine AWp.ret ⟨Or.inl rfl, rfl, ?_⟩
 intro _
 exact tupI (hO.trans (firstF_none fun j h => hg j (by omega))).symm
end Go.Proofs.Ytjjgjflbhpoloaa
