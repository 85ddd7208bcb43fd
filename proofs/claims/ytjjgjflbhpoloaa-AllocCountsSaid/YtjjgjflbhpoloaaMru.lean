/- Outputs by their places: plain model, the runner, mach.Run, OutputRun. -/
import Derived.Test.YtjjgjflbhpoloaaMch
import Derived.Test.YtjjgjflbhpoloaaSrc
import Derived.Test.YtjjgjflbhpoloaaQui
set_option linter.unusedVariables false
set_option linter.unusedSimpArgs false
/- Plain: what an output does by its places: cells, junk, moves, instructions, steps. Condition: none. -/
namespace Go.Proofs.Ytjjgjflbhpoloaa
open Go Go.Abs Go.RowKit Go.Abs.Gra
def celF (p : Plc) : Nat := if p.Kind = 2 then 22 + p.N.toNat else 11 * p.Class.toNat + p.N.toNat
theorem celF_slot {p : Plc} (h : p.Kind = 2) : celF p = 22 + p.N.toNat := if_pos h
theorem celF_reg {p : Plc} (h : p.Kind = 1) : celF p = 11 * p.Class.toNat + p.N.toNat := if_neg (by omega)
def PlOk (fr : Nat) (p : Plc) : Prop := (p.Kind = 1 ∧ 0 ≤ p.Class ∧ p.Class < 2 ∧ 0 ≤ p.N ∧ p.N ≤ 10) ∨ (p.Kind = 2 ∧ p.Class = 0 ∧ 0 ≤ p.N ∧ p.N < fr)
theorem PlOk.lt {fr : Nat} {p : Plc} (h : PlOk fr p) : celF p < 22 + fr := by
 rcases h with h | h
 ·rw [celF_reg h.1]; omega
 ·rw [celF_slot h.1]; omega
theorem regF_le {m : Mch} (hm : machF m = 0) {c : Int} : 0 ≤ regF m c ∧ regF m c ≤ 10 := reg_range hm c.toNat
theorem PlOk.of_place {m : Mch} (hm : machF m = 0) {fr : Nat} {p : Plc} (h : placeF m fr p = true) : PlOk fr p := by
 have hr := regF_le hm (c := p.Class)
 unfold placeF at h
 split at h
 ·rename_i h1
  have h := of_decide_eq_true h
  exact .inl ⟨h1, h.1, h.2.1, h.2.2.1, by omega⟩
 ·split at h
  ·rename_i h2
   have h := of_decide_eq_true h
   exact .inr ⟨h2, h⟩
  ·cases h
theorem PlOk.of_end {m : Mch} (hm : machF m = 0) {fr : Nat} {p : Plc} (h : endF m fr p = true) : PlOk fr p := by
 have hr := regF_le hm (c := p.Class)
 unfold endF at h
 split at h
 ·rename_i h1
  exact .inl ⟨h1.1, h1.2.1, h1.2.2.1, by omega, by omega⟩
 ·exact PlOk.of_place hm h
def nxF (J : List Int) (n : Nat) : Int := if J.length = 0 then 0 else (n : Int)
section
variable (f : Fun) (o : Oup) (J : List Int) (seed : Int)
end
section
variable {f : Fun} {o : Oup} {J : List Int} {seed : Int}
end
end Go.Proofs.Ytjjgjflbhpoloaa
/- The runner of an output, as own cells; contracts of mach's spoilt, at, step and of the document's cellOf, wildOf, joinedInts. Condition: places that may be. -/
namespace Go.Proofs.Ytjjgjflbhpoloaa
open Go Go.Abs Go.RowKit Go.Abs.Gra
def rnL (f : Fun) (o : Oup) (J : List Int) (seed left : Int) (C : Nat → Int) (w : Nat) (s sn e en : Nat) : List AV :=
 f.cells ++ o.cells ++ [.i64 seed, .i64 left, .i64 (C 0), .i64 (C 1), .i64 (C 2), .i64 (C 3), .i64 (C 4), .i64 (C 5), .i64 (C 6), .i64 (C 7), .i64 (C 8), .i64 (C 9), .i64 (C 10), .i64 (C 11), .i64 (C 12), .i64 (C 13), .i64 (C 14), .i64 (C 15), .i64 (C 16), .i64 (C 17), .i64 (C 18), .i64 (C 19), .i64 (C 20), .i64 (C 21), .sl ⟨s, []⟩ sn, ints J, .i64 (nxF J w), .sl ⟨e, []⟩ en]
section
variable {f : Fun} {o : Oup} {J : List Int} {seed left : Int} {C C' : Nat → Int} {w s sn e en : Nat}
theorem rnL_len : (rnL f o J seed left C w s sn e en).length = 33 := rfl
theorem rnL_get : ∀ {i : Nat}, i < 22 → ((rnL f o J seed left C w s sn e en).drop (7 + i)).headD .any = .i64 (C i)
 | 0, _ => rfl
 | 1, _ => rfl
 | 2, _ => rfl
 | 3, _ => rfl
 | 4, _ => rfl
 | 5, _ => rfl
 | 6, _ => rfl
 | 7, _ => rfl
 | 8, _ => rfl
 | 9, _ => rfl
 | 10, _ => rfl
 | 11, _ => rfl
 | 12, _ => rfl
 | 13, _ => rfl
 | 14, _ => rfl
 | 15, _ => rfl
 | 16, _ => rfl
 | 17, _ => rfl
 | 18, _ => rfl
 | 19, _ => rfl
 | 20, _ => rfl
 | 21, _ => rfl
 | _ + 22, h => absurd h (by omega)
end
theorem c_cellOf {fr : Nat} (hf : fr ≤ 1000) {p : Plc} (h : PlOk fr p) : ACallIs B.P 38 [p.av] (.i64 (celF p)) := by
 refine ACallIs.enter B _ _ Try.func38 rfl rfl Try.ntmps38 Try.results38 rfl fun hreal => ?_
 clear hreal
 repeat (first|apply zq|apply zb|apply zk)
 apply zr
 intro _
 refine AWp.freezeObj 1 rfl rfl ?_
 repeat (first|apply zq|apply zb|apply zk)
 apply zr
 intro _
 repeat (first|apply zq|apply zb|apply zk)
 refine AWp.cond (And.intro (fun h1 => ?_) (fun h1 => ?_))
 ·have hk : p.Kind = 2 := by simpa using h1
  repeat (first|apply zq|apply zb|apply zk)
  apply zr
  intro _
  refine AWp.ret ⟨Or.inl rfl, rfl, ?_⟩
  intro _
  refine tupI ?_
  rw [celF_slot hk]
  rcases h with h | h
  ·omega
  ·show IntKind.i64.wrap (22 + p.N) = _
   rw [wrap_in (by omega) (by omega)]; omega
 ·have hk : p.Kind ≠ 2 := by simpa using h1
  repeat (first|apply zq|apply zb|apply zk)
  apply zr
  intro _
  refine AWp.ret ⟨Or.inl rfl, rfl, ?_⟩
  intro _
  refine tupI ?_
  rcases h with h | h
  ·rw [celF_reg h.1]
   show IntKind.i64.wrap (IntKind.i64.wrap (11 * p.Class) + p.N) = _
   rw [wrap_in (n := 11 * p.Class) (by omega) (by omega), wrap_in (by omega) (by omega)]; omega
  ·exact absurd h.1 hk
end Go.Proofs.Ytjjgjflbhpoloaa
/- Contract of the runner's moves. Condition: moves between places that may be. -/
namespace Go.Proofs.Ytjjgjflbhpoloaa
open Go Go.Abs Go.RowKit Go.Abs.Gra
section
variable {f : Fun} {o : Oup} {J : List Int} {seed left : Int} {C C' : Nat → Int} {w s sn e en : Nat}
end
theorem PlOk.reg {fr : Nat} {p : Plc} (h : PlOk fr p) (hk : p.Kind = 1) : (0 ≤ p.Class ∧ p.Class < 2) ∧ (0 ≤ p.N ∧ p.N < 11) ∧ celF p < 22 := by
 rcases h with h | h
 ·exact ⟨h.2.1 |> fun a => ⟨a, h.2.2.1⟩, by omega, by rw [celF_reg hk]; omega⟩
 ·omega
theorem PlOk.kind {fr : Nat} {p : Plc} (h : PlOk fr p) : p.Kind = 1 ∨ p.Kind = 2 := by
 rcases h with h | h
 ·exact .inl h.1
 ·exact .inr h.1
end Go.Proofs.Ytjjgjflbhpoloaa
/- Contract of the runner's instr. Condition: a checked function, places that may be. -/
namespace Go.Proofs.Ytjjgjflbhpoloaa
open Go Go.Abs Go.RowKit Go.Abs.Gra
section
variable {x : Ins} {p : List Plc} {C C2 : Nat → Int} {k q : Nat}
end
end Go.Proofs.Ytjjgjflbhpoloaa
/- What an output is that mach.Check lets by (plain); contract of the box's begin. Condition: a machine that may be. -/
namespace Go.Proofs.Ytjjgjflbhpoloaa
open Go Go.Abs Go.RowKit Go.Abs.Gra
theorem insF_spo {f : Fun} {m : Mch} {x : Ins} (h : insF f m x = 0) : firstF (spoG m x.Spoils) x.Spoils.length = 0 := by
 have h1 : ¬ (x.Op < 0 ∨ 255 < x.Op) := fun hn => by rw [insF_op hn] at h; cases h
 have h2 : firstF (opdG f m x) x.Operands.length = 0 := Classical.byContradiction fun hn => by rw [insF_a h1 rfl hn] at h; exact hn h
 have h3 : firstF (reuG f x) x.Operands.length = 0 := Classical.byContradiction fun hn => by rw [insF_b h1 h2 rfl hn] at h; exact hn h
 exact Classical.byContradiction fun hn => by rw [insF_s h1 h2 h3 rfl hn] at h; exact hn h
structure OutOk (f : Fun) (m : Mch) (o : Oup) (fr : Nat) : Prop where
 mch : machF m = 0
 chk0 : chkF f m = 0
 frm : o.Frame = fr
 small : fr ≤ 1000
 pl : o.Places.length = f.Blocks.length
 row : ∀ b, b < f.Blocks.length → (o.Places.getD b default).length = (f.Blocks.getD b default).Instrs.length
 ops : ∀ b i, b < f.Blocks.length → i < (f.Blocks.getD b default).Instrs.length → (plAt o b i).length = (insAt f b i).Operands.length
 at_ : ∀ b i k, b < f.Blocks.length → i < (f.Blocks.getD b default).Instrs.length → k < (insAt f b i).Operands.length → PlOk fr ((plAt o b i).getD k default)
 mv : ∀ i k, i < o.Edits.length → k < (o.Edits.getD i default).Moves.length → PlOk fr ((o.Edits.getD i default).Moves.getD k default).From ∧ PlOk fr ((o.Edits.getD i default).Moves.getD k default).To
 spo : ∀ b i k, b < f.Blocks.length → i < (f.Blocks.getD b default).Instrs.length → k < (insAt f b i).Spoils.length → (0 ≤ ((insAt f b i).Spoils.getD k default).Class ∧ ((insAt f b i).Spoils.getD k default).Class < 2) ∧ (0 ≤ ((insAt f b i).Spoils.getD k default).N ∧ ((insAt f b i).Spoils.getD k default).N < 11)
theorem out_ok {f : Fun} {m : Mch} {o : Oup} (h : outF f m o = 0) : flwF f m = 0 ∧ ∃ fr : Nat, OutOk f m o fr := by
 have h0 : flwF f m = 0 := Classical.byContradiction fun hn => by rw [outF_1 hn] at h; exact hn h
 have h2 : ¬ (o.Frame < 0 ∨ 1000 < o.Frame) := fun hn => by rw [outF_2 h0 hn] at h; cases h
 have h3 : ¬ o.Places.length ≠ f.Blocks.length := fun hn => by rw [outF_3 h0 h2 hn] at h; cases h
 have h4 : firstF (bkG f m o) f.Blocks.length = 0 := Classical.byContradiction fun hn => by rw [outF_4 h0 h2 h3 rfl hn] at h; exact hn h
 rw [outF_5 h0 h2 h3 h4] at h
 have hm := flw_mach h0
 have hc : chkF f m = 0 := Classical.byContradiction fun hn => by rw [flwF_1 hn] at h0; exact hn h0
 obtain ⟨_, _, _, hblk, _⟩ := chkF_zero hc
 have hb : ∀ b, b < f.Blocks.length → (o.Places.getD b default).length = (f.Blocks.getD b default).Instrs.length ∧ firstF (inG f m o b) (f.Blocks.getD b default).Instrs.length = 0 := fun b hb => by
  have hk := firstF_zero h4 b hb
  have g1 : ¬ (o.Places.getD b default).length ≠ (f.Blocks.getD b default).Instrs.length := fun hn => by rw [bkG_1 hn] at hk; cases hk
  rw [bkG_2 g1] at hk
  exact ⟨by omega, hk⟩
 have hi : ∀ b i, b < f.Blocks.length → i < (f.Blocks.getD b default).Instrs.length → (plAt o b i).length = (insAt f b i).Operands.length ∧ firstF (opG m o.Frame (plAt o b i)) (plAt o b i).length = 0 := fun b i hbl hil => by
  have hk := firstF_zero (hb b hbl).2 i hil
  have g1 : ¬ (plAt o b i).length ≠ ((f.Blocks.getD b default).Instrs.getD i default).Operands.length := fun hn => by rw [inG_1 hn] at hk; cases hk
  rw [inG_2 g1] at hk
  exact ⟨Classical.byContradiction g1, hk⟩
 obtain ⟨fr, hfr⟩ : ∃ fr : Nat, o.Frame = fr := ⟨o.Frame.toNat, by omega⟩
 refine ⟨h0, fr, hm, hc, hfr, by omega, by omega, fun b hbl => (hb b hbl).1, fun b i hbl hil => (hi b i hbl hil).1, fun b i k hbl hil hk => ?_, fun i k hil hk => ?_, fun b i k hbl hil hk => ?_⟩
 ·have hk2 := firstF_zero (hi b i hbl hil).2 k (by rw [(hi b i hbl hil).1]; exact hk)
  unfold opG at hk2
  split at hk2
  ·rename_i g; rw [hfr] at g; exact PlOk.of_place hm g
  ·cases hk2
 ·have he := firstF_zero h i hil
  have e1 : ¬ edR f (o.Edits.getD i default) := fun hn => by rw [edtG_1 hn] at he; cases he
  have e2 : ¬ (0 < i ∧ edP (o.Edits.getD (i - 1) default) (o.Edits.getD i default)) := fun hn => by rw [edtG_2 e1 hn] at he; cases he
  have e3 : ¬ 20000 < sumM o.Edits (i + 1) := fun hn => by rw [edtG_3 e1 e2 hn] at he; cases he
  rw [edtG_4 e1 e2 e3] at he
  have hk2 := firstF_zero he k hk
  unfold movG movF at hk2
  split at hk2
  ·cases hk2
  ·rename_i g
   rw [hfr] at g
   refine ⟨PlOk.of_end hm ?_, PlOk.of_end hm ?_⟩
   ·exact Classical.byContradiction fun z => g (.inl (by simpa using z))
   ·exact Classical.byContradiction fun z => g (.inr (by simpa using z))
 ·have hx := firstF_zero (blkF_zero (firstF_zero hblk b hbl)).1 i hil
  have := spoG_ok hm (firstF_zero (insF_spo hx) k hk)
  exact ⟨this.1, this.2.1, Int.lt_trans this.2.2 (by decide)⟩
end Go.Proofs.Ytjjgjflbhpoloaa
/- Contract of mach.Run. Condition: an output that may be; steps and junk within bounds. -/
namespace Go.Proofs.Ytjjgjflbhpoloaa
open Go Go.Abs Go.RowKit Go.Abs.Gra
end Go.Proofs.Ytjjgjflbhpoloaa
/- Contract of the document's OutputRun. Condition: an output that may be; steps and junk within bounds. -/
namespace Go.Proofs.Ytjjgjflbhpoloaa
open Go Go.Abs Go.RowKit Go.Abs.Gra
end Go.Proofs.Ytjjgjflbhpoloaa
/- What mach.Run and OutputRun refuse. Condition: arguments as they come in. -/
namespace Go.Proofs.Ytjjgjflbhpoloaa
open Go Go.Abs Go.RowKit Go.Abs.Gra
noncomputable def resF (f : Fun) (m : Mch) (o : Oup) (J : List Int) (n : Int) : Int :=
 if outF f m o ≠ 0 then outF f m o else if n < 0 ∨ 5000 < n then 2 else if 64 < J.length then 1 else 0
section
variable {f : Fun} {m : Mch} {o : Oup} {J : List Int} {n : Int}
end
end Go.Proofs.Ytjjgjflbhpoloaa
