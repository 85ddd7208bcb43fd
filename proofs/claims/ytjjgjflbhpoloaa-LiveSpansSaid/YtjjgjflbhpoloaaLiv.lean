/- Where values are needed: contracts of live's compute, Sets and of the document's SetsOf. Condition: a checked function. -/
import Derived.Test.YtjjgjflbhpoloaaJue
import Derived.Test.YtjjgjflbhpoloaaRgf
import Derived.Test.YtjjgjflbhpoloaaDom
set_option linter.unusedVariables false
set_option linter.unusedSimpArgs false
/- Contracts of ref's argOf, usedIn, madeIn. Condition: sizes of a block. -/
namespace Go.Proofs.Ytjjgjflbhpoloaa
open Go Go.Abs Go.RowKit Go.Abs.Gra
structure BlkS (x : Blk) : Prop where
 p : x.Params.length ≤ maxLen
 i : x.Instrs.length ≤ maxLen
 e : x.Edges.length ≤ maxLen
 o : ∀ i, i < x.Instrs.length → (x.Instrs.getD i default).Operands.length ≤ maxLen
 a : ∀ k, k < x.Edges.length → (x.Edges.getD k default).Args.length ≤ maxLen
def argB (x : Blk) (v : Int) : Bool := anyB (fun k => decide (v ∈ (x.Edges.getD k default).Args)) x.Edges.length
def opB (x : Blk) (d v : Int) (i k : Nat) : Bool := bif ((x.Instrs.getD i default).Operands.getD k default).Kind == d then ((x.Instrs.getD i default).Operands.getD k default).Value == v else false
def opsB (x : Blk) (d v : Int) (i : Nat) : Bool := anyB (opB x d v i) (x.Instrs.getD i default).Operands.length
def useB (x : Blk) (v : Int) : Bool := anyB (opsB x 1 v) x.Instrs.length || argB x v
def madB (x : Blk) (v : Int) : Bool := decide (v ∈ x.Params) || anyB (opsB x 2 v) x.Instrs.length
theorem none_succ {p : Nat → Bool} {n : Nat} (h : ∀ j, j < n → p j = false) (g : p n = false) : ∀ j, j < n + 1 → p j = false := fun j hj => by
 by_cases e : j = n
 ·subst e; exact g
 ·exact h j (by omega)
theorem c_argOf (x : Blk) (hx : BlkS x) (v : Int) : ACallIs B.P 84 [x.av, .i64 v] (.bool (argB x v)) := by
 have hem := hx.e
 refine ACallIs.enter B _ _ Try.func84 rfl rfl Try.ntmps84 Try.results84 rfl fun hreal => ?_
 clear hreal
 repeat (first|apply zq|apply zb|apply zk)
 apply zr
 intro _
 refine AWp.freezeObj 2 rfl rfl ?_
 repeat (first|apply zq|apply zb|apply zk)
 apply zr
 intro _
 repeat (first|apply zq|apply zb|apply zk)
 refine AWp.loop (fun k : Nat => ⟨[(1, .i64 v), (2, .ptr x.cells), (5, .i64 k)], []⟩) (fun k => k ≤ x.Edges.length ∧ ∀ j, j < k → decide (v ∈ (x.Edges.getD j default).Args) = false) (fun k => x.Edges.length - k) 0 ⟨Nat.zero_le _, fun j h => absurd h (Nat.not_lt_zero _)⟩ ?_ ?_
 ·refine And.intro ?_ trivial
  repeat' (first|exact rfl|exact trivial|refine And.intro ?_ ?_)
 rintro k ⟨hk0, hK⟩
 repeat (first|apply zq|apply zb|apply zk)
 apply zr
 intro _
 repeat (first|apply zq|apply zb|apply zk)
 refine AWp.cond (And.intro (fun h1 => ?_) (fun h1 => ?_))
 ·have hk : k < x.Edges.length := Int.ofNat_lt.1 (of_decide_eq_true h1)
  have hh := c_has (x.Edges.getD k default).Args v (hx.a k hk)
  repeat (first|apply zq|apply zb|apply zk)
  apply zr
  repeat' (first|exact trivial|refine And.intro ?_ ?_|refine CallX.pure hh rfl rfl rfl ?_|fail)
  all_goals first|exact fun _ => nn (hk)|skip
  intro _
  repeat (first|apply zq|apply zb|apply zk)
  refine AWp.cond (And.intro (fun h2 => ?_) (fun h2 => ?_))
  ·repeat (first|apply zq|apply zb|apply zk)
   apply zr
   intro _
   refine AWp.ret ⟨Or.inl rfl, rfl, ?_⟩
   intro _
   exact tupB (anyB_hit hk h2).symm
  ·repeat (first|apply zq|apply zb|apply zk)
   apply zr
   intro _
   refine round_end (k + 1) ⟨hk, none_succ hK h2⟩ ?_ (by omega)
   refine And.intro ?_ trivial
   repeat' (first|exact rfl|exact trivial|exact congrArg (fun z => some (AV.i64 z)) (wrap_succ hk hem)|refine And.intro ?_ ?_)
 ·have hk3 : ¬ (k : Int) < x.Edges.length := of_decide_eq_false h1
  obtain rfl : k = x.Edges.length := by omega
  apply ze
  repeat (first|apply zq|apply zb|apply zk)
  apply zr
  intro _
  refine AWp.ret ⟨Or.inl rfl, rfl, ?_⟩
  intro _
  exact tupB (anyB_none hK).symm
theorem c_usedIn (x : Blk) (hx : BlkS x) (v : Int) : ACallIs B.P 83 [x.av, .i64 v] (.bool (useB x v)) := by
 have him := hx.i
 refine ACallIs.enter B _ _ Try.func83 rfl rfl Try.ntmps83 Try.results83 rfl fun hreal => ?_
 clear hreal
 repeat (first|apply zq|apply zb|apply zk)
 apply zr
 intro _
 refine AWp.freezeObj 2 rfl rfl ?_
 repeat (first|apply zq|apply zb|apply zk)
 apply zr
 intro _
 repeat (first|apply zq|apply zb|apply zk)
 refine AWp.loop (fun i : Nat => ⟨[(1, .i64 v), (2, .ptr x.cells), (5, .i64 i)], []⟩) (fun i => i ≤ x.Instrs.length ∧ ∀ j, j < i → opsB x 1 v j = false) (fun i => x.Instrs.length - i) 0 ⟨Nat.zero_le _, fun j h => absurd h (Nat.not_lt_zero _)⟩ ?_ ?_
 ·refine And.intro ?_ trivial
  repeat' (first|exact rfl|exact trivial|refine And.intro ?_ ?_)
 rintro i ⟨hi0, hI⟩
 repeat (first|apply zq|apply zb|apply zk)
 apply zr
 intro _
 repeat (first|apply zq|apply zb|apply zk)
 refine AWp.cond (And.intro (fun h1 => ?_) (fun h1 => ?_))
 ·have hi : i < x.Instrs.length := Int.ofNat_lt.1 (of_decide_eq_true h1)
  have hom := hx.o i hi
  repeat (first|apply zq|apply zb|apply zk)
  apply zr
  intro _
  repeat (first|apply zq|apply zb|apply zk)
  refine AWp.loop (fun k : Nat => ⟨[(1, .i64 v), (2, .ptr x.cells), (5, .i64 i), (6, .i64 k)], []⟩) (fun k => k ≤ (x.Instrs.getD i default).Operands.length ∧ ∀ j, j < k → opB x 1 v i j = false) (fun k => (x.Instrs.getD i default).Operands.length - k) 0 ⟨Nat.zero_le _, fun j h => absurd h (Nat.not_lt_zero _)⟩ ?_ ?_
  ·refine And.intro ?_ trivial
   repeat' (first|exact rfl|exact trivial|refine And.intro ?_ ?_)
  rintro k ⟨hk0, hK⟩
  repeat (first|apply zq|apply zb|apply zk)
  apply zr
  repeat' (first|exact trivial|refine And.intro ?_ ?_|fail)
  all_goals first|exact fun _ => nn (hi)|skip
  intro _
  repeat (first|apply zq|apply zb|apply zk)
  refine AWp.cond (And.intro (fun h2 => ?_) (fun h2 => ?_))
  ·have hk : k < (x.Instrs.getD i default).Operands.length := Int.ofNat_lt.1 (of_decide_eq_true h2)
   repeat (first|apply zq|apply zb|apply zk)
   apply zr
   repeat' (first|exact trivial|refine And.intro ?_ ?_|fail)
   all_goals first|exact fun _ => nn (hi)|exact fun _ => nn (hk)|skip
   intro _
   refine AWp.freezeObj 7 rfl rfl ?_
   repeat (first|apply zq|apply zb|apply zk)
   apply zr
   repeat' (first|exact trivial|refine And.intro ?_ ?_|fail)
   all_goals first|exact fun h => h|exact gT|exact gF|exact gN|exact gA|skip
   intro _
   repeat (first|apply zq|apply zb|apply zk)
   refine AWp.cond (And.intro (fun h3 => ?_) (fun h3 => ?_))
   ·have h3 : opB x 1 v i k = true := h3
    have h4 : opsB x 1 v i = true := anyB_hit hk h3
    repeat (first|apply zq|apply zb|apply zk)
    apply zr
    intro _
    refine AWp.ret ⟨Or.inl rfl, rfl, ?_⟩
    intro _
    refine tupB ?_
    unfold useB
    rw [anyB_hit hi h4]
    rfl
   ·have h3 : opB x 1 v i k = false := h3
    repeat (first|apply zq|apply zb|apply zk)
    apply zr
    intro _
    refine round_end (k + 1) ⟨hk, none_succ hK h3⟩ ?_ (by omega)
    refine And.intro ?_ trivial
    repeat' (first|exact rfl|exact trivial|exact congrArg (fun z => some (AV.i64 z)) (wrap_succ hk hom)|refine And.intro ?_ ?_)
  ·have hk3 : ¬ (k : Int) < (x.Instrs.getD i default).Operands.length := of_decide_eq_false h2
   obtain rfl : k = (x.Instrs.getD i default).Operands.length := by omega
   apply ze
   repeat (first|apply zq|apply zb|apply zk)
   apply zr
   intro _
   refine round_end (i + 1) ⟨hi, none_succ hI (anyB_none hK)⟩ ?_ (by omega)
   refine And.intro ?_ trivial
   repeat' (first|exact rfl|exact trivial|exact congrArg (fun z => some (AV.i64 z)) (wrap_succ hi him)|refine And.intro ?_ ?_)
 ·have hi3 : ¬ (i : Int) < x.Instrs.length := of_decide_eq_false h1
  obtain rfl : i = x.Instrs.length := by omega
  apply ze
  repeat (first|apply zq|apply zb|apply zk)
  apply zr
  repeat' (first|exact trivial|refine And.intro ?_ ?_|refine CallX.pure (c_argOf x hx v) rfl rfl rfl ?_|fail)
  intro _
  refine AWp.ret ⟨Or.inl rfl, rfl, ?_⟩
  intro _
  refine tupB ?_
  unfold useB
  rw [anyB_none hI]; rfl
theorem c_madeIn (x : Blk) (hx : BlkS x) (v : Int) : ACallIs B.P 82 [x.av, .i64 v] (.bool (madB x v)) := by
 have him := hx.i
 refine ACallIs.enter B _ _ Try.func82 rfl rfl Try.ntmps82 Try.results82 rfl fun hreal => ?_
 clear hreal
 repeat (first|apply zq|apply zb|apply zk)
 apply zr
 intro _
 refine AWp.freezeObj 2 rfl rfl ?_
 repeat (first|apply zq|apply zb|apply zk)
 apply zr
 repeat' (first|exact trivial|refine And.intro ?_ ?_|refine CallX.pure (c_has x.Params v hx.p) rfl rfl rfl ?_|fail)
 intro _
 repeat (first|apply zq|apply zb|apply zk)
 refine AWp.cond (And.intro (fun h0 => ?_) (fun h0 => ?_))
 ·have h0 : decide (v ∈ x.Params) = true := h0
  repeat (first|apply zq|apply zb|apply zk)
  apply zr
  intro _
  refine AWp.ret ⟨Or.inl rfl, rfl, ?_⟩
  intro _
  refine tupB ?_
  unfold madB
  rw [h0]; rfl
 have h0 : decide (v ∈ x.Params) = false := h0
 repeat (first|apply zq|apply zb|apply zk)
 apply zr
 intro _
 repeat (first|apply zq|apply zb|apply zk)
 refine AWp.loop (fun i : Nat => ⟨[(1, .i64 v), (2, .ptr x.cells), (5, .i64 i)], []⟩) (fun i => i ≤ x.Instrs.length ∧ ∀ j, j < i → opsB x 2 v j = false) (fun i => x.Instrs.length - i) 0 ⟨Nat.zero_le _, fun j h => absurd h (Nat.not_lt_zero _)⟩ ?_ ?_
 ·refine And.intro ?_ trivial
  repeat' (first|exact rfl|exact trivial|refine And.intro ?_ ?_)
 rintro i ⟨hi0, hI⟩
 repeat (first|apply zq|apply zb|apply zk)
 apply zr
 intro _
 repeat (first|apply zq|apply zb|apply zk)
 refine AWp.cond (And.intro (fun h1 => ?_) (fun h1 => ?_))
 ·have hi : i < x.Instrs.length := Int.ofNat_lt.1 (of_decide_eq_true h1)
  have hom := hx.o i hi
  repeat (first|apply zq|apply zb|apply zk)
  apply zr
  intro _
  repeat (first|apply zq|apply zb|apply zk)
  refine AWp.loop (fun k : Nat => ⟨[(1, .i64 v), (2, .ptr x.cells), (5, .i64 i), (6, .i64 k)], []⟩) (fun k => k ≤ (x.Instrs.getD i default).Operands.length ∧ ∀ j, j < k → opB x 2 v i j = false) (fun k => (x.Instrs.getD i default).Operands.length - k) 0 ⟨Nat.zero_le _, fun j h => absurd h (Nat.not_lt_zero _)⟩ ?_ ?_
  ·refine And.intro ?_ trivial
   repeat' (first|exact rfl|exact trivial|refine And.intro ?_ ?_)
  rintro k ⟨hk0, hK⟩
  repeat (first|apply zq|apply zb|apply zk)
  apply zr
  repeat' (first|exact trivial|refine And.intro ?_ ?_|fail)
  all_goals first|exact fun _ => nn (hi)|skip
  intro _
  repeat (first|apply zq|apply zb|apply zk)
  refine AWp.cond (And.intro (fun h2 => ?_) (fun h2 => ?_))
  ·have hk : k < (x.Instrs.getD i default).Operands.length := Int.ofNat_lt.1 (of_decide_eq_true h2)
   repeat (first|apply zq|apply zb|apply zk)
   apply zr
   repeat' (first|exact trivial|refine And.intro ?_ ?_|fail)
   all_goals first|exact fun _ => nn (hi)|exact fun _ => nn (hk)|skip
   intro _
   refine AWp.freezeObj 7 rfl rfl ?_
   repeat (first|apply zq|apply zb|apply zk)
   apply zr
   repeat' (first|exact trivial|refine And.intro ?_ ?_|fail)
   all_goals first|exact fun h => h|exact gT|exact gF|exact gN|exact gA|skip
   intro _
   repeat (first|apply zq|apply zb|apply zk)
   refine AWp.cond (And.intro (fun h3 => ?_) (fun h3 => ?_))
   ·have h3 : opB x 2 v i k = true := h3
    have h4 : opsB x 2 v i = true := anyB_hit hk h3
    repeat (first|apply zq|apply zb|apply zk)
    apply zr
    intro _
    refine AWp.ret ⟨Or.inl rfl, rfl, ?_⟩
    intro _
    refine tupB ?_
    unfold madB
    rw [anyB_hit hi h4]
    rw [Bool.or_true]
   ·have h3 : opB x 2 v i k = false := h3
    repeat (first|apply zq|apply zb|apply zk)
    apply zr
    intro _
    refine round_end (k + 1) ⟨hk, none_succ hK h3⟩ ?_ (by omega)
    refine And.intro ?_ trivial
    repeat' (first|exact rfl|exact trivial|exact congrArg (fun z => some (AV.i64 z)) (wrap_succ hk hom)|refine And.intro ?_ ?_)
  ·have hk3 : ¬ (k : Int) < (x.Instrs.getD i default).Operands.length := of_decide_eq_false h2
   obtain rfl : k = (x.Instrs.getD i default).Operands.length := by omega
   apply ze
   repeat (first|apply zq|apply zb|apply zk)
   apply zr
   intro _
   refine round_end (i + 1) ⟨hi, none_succ hI (anyB_none hK)⟩ ?_ (by omega)
   refine And.intro ?_ trivial
   repeat' (first|exact rfl|exact trivial|exact congrArg (fun z => some (AV.i64 z)) (wrap_succ hi him)|refine And.intro ?_ ?_)
 ·have hi3 : ¬ (i : Int) < x.Instrs.length := of_decide_eq_false h1
  obtain rfl : i = x.Instrs.length := by omega
  apply ze
  repeat (first|apply zq|apply zb|apply zk)
  apply zr
  intro _
  refine AWp.ret ⟨Or.inl rfl, rfl, ?_⟩
  intro _
  refine tupB ?_
  unfold madB
  rw [h0, anyB_none hI]; rfl
end Go.Proofs.Ytjjgjflbhpoloaa
/- Where a value is needed; contracts of ref's neededAt, neededBehind. Condition: a checked function. -/
namespace Go.Proofs.Ytjjgjflbhpoloaa
open Go Go.Abs Go.RowKit Go.Abs.Gra
@[reducible] def blkA (f : Fun) (b : Nat) : Blk := f.Blocks.getD b default
inductive Nd (f : Fun) (v : Int) : Nat → Prop
 | use {b : Nat} : b < f.Blocks.length → madB (blkA f b) v = false → useB (blkA f b) v = true → Nd f v b
 | edge {b k : Nat} : b < f.Blocks.length → madB (blkA f b) v = false → k < (blkA f b).Edges.length → Nd f v (edT f b k) → Nd f v b
noncomputable def nedB (f : Fun) (v : Int) (b : Nat) : Bool := @decide (Nd f v b) (Classical.propDecidable _)
theorem nedB_iff {f : Fun} {v : Int} {b : Nat} : nedB f v b = true ↔ Nd f v b := by
 unfold nedB; exact @decide_eq_true_iff _ (Classical.propDecidable _)
theorem blkS_of {f : Fun} (hC : Chkd f) (hf : Fun.ok f) {b : Nat} (hb : b < f.Blocks.length) : BlkS (blkA f b) := by
 have hz := hC.e.siz
 refine ⟨?_, ?_, ?_, fun i hi => ?_, fun k hk => ?_⟩
 ·have := hz.params b hb; show (f.Blocks.getD b default).Params.length ≤ _; unfold maxLen; omega
 ·have := hz.instrs b hb; show (f.Blocks.getD b default).Instrs.length ≤ _; unfold maxLen; omega
 ·have := hz.edges b hb; show (f.Blocks.getD b default).Edges.length ≤ _; unfold maxLen; omega
 ·have := hz.ops b i hb hi; show ((f.Blocks.getD b default).Instrs.getD i default).Operands.length ≤ _; unfold maxLen; omega
 ·have := hC.argl b k hb hk; show ((f.Blocks.getD b default).Edges.getD k default).Args.length ≤ _; unfold maxLen; omega
def nnF (f : Fun) (v : Int) (b : Nat) (I : Nat → Bool) : Nat → Bool
 | 0 => useB (blkA f b) v
 | k + 1 => bif nnF f v b I k then true else I (edT f b k)
section
variable {f : Fun} {v : Int} {b n : Nat} {I I0 : Nat → Bool} {ch : Bool}
theorem nnF_iff : ∀ n, nnF f v b I n = true ↔ useB (blkA f b) v = true ∨ ∃ k, k < n ∧ I (edT f b k) = true
 | 0 => by simp [nnF]
 | n + 1 => by
  have ih := nnF_iff n
  show (bif nnF f v b I n then true else I (edT f b n)) = true ↔ _
  cases h : nnF f v b I n with
  | true =>
   rw [h] at ih
   refine ⟨fun _ => (ih.1 rfl).elim .inl fun ⟨k, h1, h2⟩ => .inr ⟨k, by omega, h2⟩, fun _ => rfl⟩
  | false =>
   rw [h] at ih
   refine ⟨fun g => .inr ⟨n, Nat.lt_succ_self _, g⟩, fun g => ?_⟩
   rcases g with g | ⟨k, h1, h2⟩
   ·exact absurd (ih.2 (.inl g)) (by simp)
   ·by_cases e : k = n
    ·subst e; exact h2
    ·exact absurd (ih.2 (.inr ⟨k, by omega, h2⟩)) (by simp)
def putB (I : Nat → Bool) (b : Nat) : Nat → Bool := fun j => I j || decide (j = b)
theorem putB_row {j : Nat} : [AV.bool (putB I b j)] = if j = b then [AV.bool true] else [AV.bool (I j)] := by
 unfold putB
 by_cases e : j = b
 ·rw [if_pos e, decide_eq_true e, Bool.or_true]
 ·rw [if_neg e, decide_eq_false e, Bool.or_false]
structure NdI (f : Fun) (v : Int) (I0 I : Nat → Bool) (ch : Bool) : Prop where
 ok : ∀ b, I b = true → Nd f v b
 up : ch = true → cnB I0 f.Blocks.length < cnB I f.Blocks.length
 ge : cnB I0 f.Blocks.length ≤ cnB I f.Blocks.length
 sm : ch = false → I = I0
def NdC (f : Fun) (v : Int) (I0 : Nat → Bool) (b : Nat) : Prop := I0 b = true ∨ madB (blkA f b) v = true ∨ nnF f v b I0 (blkA f b).Edges.length = false
theorem NdI.start (h : ∀ b, I b = true → Nd f v b) : NdI f v I I false := ⟨h, (fun h => (by cases h)), Nat.le_refl _, fun _ => rfl⟩
theorem NdI.put (h : NdI f v I0 I ch) (hb : b < f.Blocks.length) (h1 : I b = false) (h2 : madB (blkA f b) v = false) (h3 : nnF f v b I (blkA f b).Edges.length = true) : NdI f v I0 (putB I b) true := by
 have hlt : cnB I f.Blocks.length < cnB (putB I b) f.Blocks.length := cnB_lt (fun i _ hi => by unfold putB; rw [hi]; rfl) ⟨b, hb, h1, by unfold putB; rw [decide_eq_true rfl, Bool.or_true]⟩
 refine ⟨fun c hc => ?_, fun _ => Nat.lt_of_le_of_lt h.ge hlt, Nat.le_trans h.ge (Nat.le_of_lt hlt), fun e => (by cases e)⟩
 unfold putB at hc
 rw [Bool.or_eq_true, decide_eq_true_iff] at hc
 rcases hc with hc | rfl
 ·exact h.ok c hc
 ·rcases (nnF_iff _).1 h3 with g | ⟨k, hk, g⟩
  ·exact .use hb h2 g
  ·exact .edge hb h2 hk (h.ok _ g)
theorem NdI.less (h : NdI f v I0 I ch) : f.Blocks.length - cnB I f.Blocks.length + ch.toNat < f.Blocks.length - cnB I0 f.Blocks.length + (true : Bool).toNat := by
 have h1 := h.ge
 have h2 := cnB_max (p := I) (n := f.Blocks.length)
 cases ch with
 | true =>
  have := h.up rfl
  show _ + 1 < _ + 1; omega
 | false =>
  rw [h.sm rfl]
  show _ + 0 < _ + 1; omega
theorem nd_done (hC : Chkd f) (hI : ∀ b, I b = true → Nd f v b) (hd : ∀ b, b < f.Blocks.length → NdC f v I b) {b : Nat} : I b = nedB f v b := by
 rw [Bool.eq_iff_iff, nedB_iff]
 refine ⟨hI b, fun h => ?_⟩
 induction h with
 | use hb hm hu =>
  rcases hd _ hb with g | g | g
  ·exact g
  ·rw [hm] at g; cases g
  ·rw [(nnF_iff _).2 (.inl hu)] at g; cases g
 | edge hb hm hk hn ih =>
  rcases hd _ hb with g | g | g
  ·exact g
  ·rw [hm] at g; cases g
  ·rw [(nnF_iff _).2 (.inr ⟨_, hk, ih⟩)] at g; cases g
end
set_option maxHeartbeats 4000000 in
theorem c_neededAt (f : Fun) (hC : Chkd f) (hf : Fun.ok f) (v : Int) :
  ACallM B.P 43 ⟨[f.av, .i64 v], [], .sl 14 f.Blocks.length, [(14, rowB f.Blocks.length (nedB f v))]⟩ := by
 have hz5 := hC.e.siz
 have hbl := hz5.blocks
 have hbm : f.Blocks.length ≤ maxLen := by unfold maxLen; omega
 refine ACallM.enter B _ _ Try.func43 rfl rfl Try.ntmps43 Try.results43 rfl ?_ fun hreal => ?_
 ·refine And.intro trivial (And.intro ?_ trivial)
  repeat' (first|exact rfl|exact trivial|refine And.intro ?_ ?_)
 clear hreal
 repeat (first|apply zq|apply zb|apply zk)
 apply zr
 intro _
 refine AWp.freezeObj 2 rfl rfl ?_
 repeat (first|apply zq|apply zb|apply zk)
 apply zr
 refine And.intro rfl (And.intro (Int.natCast_nonneg _) (And.intro (by simp only [Int.toNat_natCast]; omega) ?_))
 intro _
 repeat (first|apply zq|apply zb|apply zk)
 apply zr
 intro _
 repeat (first|apply zq|apply zb|apply zk)
 refine AWp.loop (fun s : (Nat → Bool) × Bool => ⟨[(1, .i64 v), (2, .ptr f.cells), (5, .sl 14 f.Blocks.length), (6, .bool s.2)], [(14, rowB f.Blocks.length (s.1))]⟩) (fun s => (∀ b, s.1 b = true → Nd f v b) ∧ (s.2 = false → ∀ b, b < f.Blocks.length → NdC f v s.1 b)) (fun s => f.Blocks.length - cnB s.1 f.Blocks.length + s.2.toNat) (fun _ => false, true) ⟨(fun b h => by cases h), (fun h => by cases h)⟩ ?_ ?_
 ·refine And.intro ?_ (And.intro (⟨_, _, rfl, rfl, fun i hi => rfl⟩) (And.intro (trivial) (trivial)))
  all_goals repeat' (first|exact rfl|exact trivial|refine And.intro ?_ ?_)
 rintro ⟨I0, ch0⟩ ⟨hI0, hd0⟩
 repeat (first|apply zq|apply zb|apply zk)
 apply zr
 intro _
 repeat (first|apply zq|apply zb|apply zk)
 refine AWp.cond (And.intro (fun h1 => ?_) (fun h1 => ?_))
 ·obtain rfl : ch0 = true := h1
  repeat (first|apply zq|apply zb|apply zk)
  apply zr
  intro _
  repeat (first|apply zq|apply zb|apply zk)
  apply zr
  intro _
  repeat (first|apply zq|apply zb|apply zk)
  refine AWp.loop (fun s : (Nat → Bool) × Bool × Nat => ⟨[(1, .i64 v), (2, .ptr f.cells), (5, .sl 14 f.Blocks.length), (6, .bool s.2.1), (7, .i64 s.2.2)], [(14, rowB f.Blocks.length (s.1))]⟩) (fun s => NdI f v I0 s.1 s.2.1 ∧ s.2.2 ≤ f.Blocks.length ∧ (s.2.1 = false → ∀ b', b' < s.2.2 → NdC f v I0 b')) (fun s => f.Blocks.length - s.2.2) (I0, false, 0) ⟨NdI.start hI0, Nat.zero_le _, fun _ b' h => absurd h (Nat.not_lt_zero _)⟩ ?_ ?_
  ·refine And.intro ?_ (And.intro (⟨_, _, rfl, rfl, fun i hi => rfl⟩) (And.intro (trivial) (trivial)))
   all_goals repeat' (first|exact rfl|exact trivial|refine And.intro ?_ ?_)
  rintro ⟨I, ch, b⟩ ⟨hI, hb0, hd⟩
  repeat (first|apply zq|apply zb|apply zk)
  apply zr
  intro _
  repeat (first|apply zq|apply zb|apply zk)
  refine AWp.cond (And.intro (fun h2 => ?_) (fun h2 => ?_))
  ·have hb : b < f.Blocks.length := Int.ofNat_lt.1 (of_decide_eq_true h2)
   have hx := blkS_of hC hf hb
   have hem := hx.e
   have nx : ∀ {c : Bool}, (c = false → ch = false) → (c = false → NdC f v I0 b) → (c = false → ∀ b', b' < b + 1 → NdC f v I0 b') := fun hc g e b' hb' => by
    by_cases eb : b' = b
    ·subst eb; exact g e
    ·exact hd (hc e) b' (show b' < b by omega)
   repeat (first|apply zq|apply zb|apply zk)
   apply zr
   repeat' (first|exact trivial|refine And.intro ?_ ?_|fail)
   all_goals first|exact fun _ => nn (hb)|skip
   intro _
   refine AWp.freezeObj 8 rfl rfl ?_
   repeat (first|apply zq|apply zb|apply zk)
   apply zr
   repeat' (first|exact trivial|refine And.intro ?_ ?_|refine CallK.intro (fun _ => c_madeIn (blkA f b) hx v) ?_|fail)
   all_goals first|exact fun _ => nn (hb)|exact fun _ => hb|exact fun h => h|exact gT|exact gF|exact gN|exact gA|skip
   intro _
   repeat (first|apply zq|apply zb|apply zk)
   refine AWp.cond (And.intro (fun h3 => ?_) (fun h3 => ?_))
   ·have h3 : (bif I b then true else madB (blkA f b) v) = true := h3
    apply ze
    repeat (first|apply zq|apply zb|apply zk)
    apply zr
    intro _
    refine round_end (I, ch, b + 1) ⟨hI, hb, nx (fun e => e) fun e => ?_⟩ ?_ (by show f.Blocks.length - (b + 1) < f.Blocks.length - b; omega)
    ·rw [show I = I0 from hI.sm e] at h3
     cases hq : I0 b with
     | true => exact .inl hq
     | false => rw [hq] at h3; exact .inr (.inl h3)
    refine And.intro ?_ (And.intro (⟨_, _, rfl, rfl, fun i hi => rfl⟩) (And.intro (trivial) (trivial)))
    all_goals repeat' (first|exact rfl|exact trivial|exact congrArg (fun z => some (AV.i64 z)) (wrap_succ hb hbm)|refine And.intro ?_ ?_)
   have h3 : (bif I b then true else madB (blkA f b) v) = false := h3
   have h4 : I b = false := by
    cases hq : I b with
    | true => rw [hq] at h3; cases h3
    | false => rfl
   have h5 : madB (blkA f b) v = false := by rw [h4] at h3; exact h3
   repeat (first|apply zq|apply zb|apply zk)
   apply zr
   repeat' (first|exact trivial|refine And.intro ?_ ?_|refine CallX.pure (c_usedIn (blkA f b) hx v) rfl rfl rfl ?_|fail)
   intro _
   repeat (first|apply zq|apply zb|apply zk)
   apply zr
   intro _
   repeat (first|apply zq|apply zb|apply zk)
   refine AWp.loop (fun k : Nat => ⟨[(1, .i64 v), (2, .ptr f.cells), (5, .sl 14 f.Blocks.length), (6, .bool ch), (7, .i64 b), (8, .ptr (blkA f b).cells), (9, .bool (nnF f v b I k)), (10, .i64 k)], [(14, rowB f.Blocks.length (I))]⟩) (fun k => k ≤ (blkA f b).Edges.length) (fun k => (blkA f b).Edges.length - k) 0 (Nat.zero_le _) ?_ ?_
   ·refine And.intro ?_ (And.intro (⟨_, _, rfl, rfl, fun i hi => rfl⟩) (And.intro (trivial) (trivial)))
    all_goals repeat' (first|exact rfl|exact trivial|refine And.intro ?_ ?_)
   intro k hk0
   repeat (first|apply zq|apply zb|apply zk)
   apply zr
   intro _
   repeat (first|apply zq|apply zb|apply zk)
   refine AWp.cond (And.intro (fun h6 => ?_) (fun h6 => ?_))
   ·have hk : k < (blkA f b).Edges.length := Int.ofNat_lt.1 (of_decide_eq_true h6)
    have hE := hC.e.edge b k hb hk
    have hE1 : 0 ≤ (edE f b k).Block ∧ (edE f b k).Block < f.Blocks.length := ⟨Int.le_of_lt hE.1, hE.2⟩
    have hT := (edT_lt hC hb hk).2
    repeat (first|apply zq|apply zb|apply zk)
    apply zr
    repeat' (first|exact trivial|refine And.intro ?_ ?_|fail)
    all_goals first|exact fun _ => nn (hk)|exact fun _ => hE1|exact fun _ => hT|exact fun h => h|exact gT|exact gF|exact gN|exact gA|skip
    intro _
    repeat (first|apply zq|apply zb|apply zk)
    apply zr
    intro _
    refine round_end (k + 1) hk ?_ (by omega)
    refine And.intro ?_ (And.intro (⟨_, _, rfl, rfl, fun i hi => rfl⟩) (And.intro (trivial) (trivial)))
    all_goals repeat' (first|exact rfl|exact trivial|exact congrArg (fun z => some (AV.i64 z)) (wrap_succ hk hem)|refine And.intro ?_ ?_)
   have hk3 : ¬ (k : Int) < (blkA f b).Edges.length := of_decide_eq_false h6
   obtain rfl : k = (blkA f b).Edges.length := by omega
   apply ze
   repeat (first|apply zq|apply zb|apply zk)
   apply zr
   intro _
   repeat (first|apply zq|apply zb|apply zk)
   refine AWp.mono (Q := fun x t => x = .normal ∧ ∃ I' ch', NdI f v I0 I' ch' ∧ (ch' = false → ch = false) ∧ (ch' = false → NdC f v I0 b) ∧ Sub ⟨[(1, .i64 v), (2, .ptr f.cells), (5, .sl 14 f.Blocks.length), (6, .bool ch'), (7, .i64 b)], [(14, rowB f.Blocks.length (I'))]⟩ t) ?_ ?_
   ·repeat (first|apply zq|apply zb|apply zk)
    refine AWp.cond (And.intro (fun h7 => ?_) (fun h7 => ?_))
    ·have h7 : nnF f v b I (blkA f b).Edges.length = true := h7
     repeat (first|apply zq|apply zb|apply zk)
     apply zr
     repeat' (first|exact trivial|refine And.intro ?_ ?_|fail)
     all_goals first|exact fun _ => nn (hb)|exact hb|exact fun _ => hb|skip
     intro _
     repeat (first|apply zq|apply zb|apply zk)
     apply zr
     intro _
     refine And.intro rfl (Exists.intro (putB I b) (Exists.intro true (And.intro (hI.put hb h4 h5 h7) (And.intro (fun h => (by cases h)) (And.intro (fun h => (by cases h)) ?_)))))
     refine And.intro ?_ (And.intro (⟨_, _, rfl, rfl, fun i hi => putB_row⟩) (And.intro (trivial) (trivial)))
     all_goals repeat' (first|exact rfl|exact trivial|refine And.intro ?_ ?_)
    ·have h7 : nnF f v b I (blkA f b).Edges.length = false := h7
     refine AWp.skip ?_
     refine And.intro rfl (Exists.intro I (Exists.intro ch (And.intro hI (And.intro (fun h => h) (And.intro (fun e => .inr (.inr (by rw [← hI.sm e]; exact h7))) ?_)))))
     refine And.intro ?_ (And.intro (⟨_, _, rfl, rfl, fun i hi => rfl⟩) (And.intro (trivial) (trivial)))
     all_goals repeat' (first|exact rfl|exact trivial|refine And.intro ?_ ?_)
   rintro _ _ ⟨rfl, I', ch', hI', hcc, hd', hs1⟩
   refine AWp.weaken hs1 ?_
   repeat (first|apply zq|apply zb|apply zk)
   apply zr
   intro _
   refine round_end (I', ch', b + 1) ⟨hI', hb, nx hcc hd'⟩ ?_ (by show f.Blocks.length - (b + 1) < f.Blocks.length - b; omega)
   refine And.intro ?_ (And.intro (⟨_, _, rfl, rfl, fun i hi => rfl⟩) (And.intro (trivial) (trivial)))
   all_goals repeat' (first|exact rfl|exact trivial|exact congrArg (fun z => some (AV.i64 z)) (wrap_succ hb hbm)|refine And.intro ?_ ?_)
  have hb3 : ¬ (b : Int) < f.Blocks.length := of_decide_eq_false h2
  have hb1 : b ≤ f.Blocks.length := hb0
  obtain rfl : b = f.Blocks.length := by omega
  apply ze
  refine Exists.intro (I, ch) (And.intro ⟨hI.ok, fun e b' hb' => ?_⟩ (And.intro ?_ hI.less))
  ·have e : ch = false := e
   show NdC f v I b'
   have e2 : I = I0 := hI.sm e
   rw [e2]
   exact hd e b' hb'
  ·refine And.intro ?_ (And.intro (⟨_, _, rfl, rfl, fun i hi => rfl⟩) (And.intro (trivial) (trivial)))
   all_goals repeat' (first|exact rfl|exact trivial|refine And.intro ?_ ?_)
 ·obtain rfl : ch0 = false := h1
  apply ze
  repeat (first|apply zq|apply zb|apply zk)
  apply zr
  intro _
  refine AWp.ret ⟨Or.inl rfl, ?_⟩
  intro _
  exact And.intro rfl (And.intro rfl (And.intro ⟨_, _, rfl, rfl, fun i hi => congrArg (fun z => [AV.bool z]) (nd_done hC hI0 (hd0 rfl)).symm⟩ (And.intro trivial trivial)))
theorem c_neededBehind (f : Fun) (hC : Chkd f) (hf : Fun.ok f) (I : Nat → Bool) (b : Nat) (hb : b < f.Blocks.length) (v : Int) :
  ACallIs B.P 44 [f.av, .ro 1 f.Blocks.length (fun i => [.bool (I i)]), .i64 b, .i64 v] (.bool (anyB (fun k => I (edT f b k)) (blkA f b).Edges.length || argB (blkA f b) v)) := by
 have hx := blkS_of hC hf hb
 have hem := hx.e
 refine ACallIs.enter B _ _ Try.func44 rfl rfl Try.ntmps44 Try.results44 rfl fun hreal => ?_
 clear hreal
 repeat (first|apply zq|apply zb|apply zk)
 apply zr
 intro _
 refine AWp.freezeObj 4 rfl rfl ?_
 repeat (first|apply zq|apply zb|apply zk)
 apply zr
 repeat' (first|exact trivial|refine And.intro ?_ ?_|fail)
 all_goals first|exact fun _ => nn (hb)|skip
 intro _
 refine AWp.freezeObj 9 rfl rfl ?_
 repeat (first|apply zq|apply zb|apply zk)
 apply zr
 intro _
 repeat (first|apply zq|apply zb|apply zk)
 refine AWp.loop (fun k : Nat => ⟨[(1, .ro 1 f.Blocks.length (fun i => [.bool (I i)])), (3, .i64 v), (9, .ptr (blkA f b).cells), (10, .i64 k)], []⟩) (fun k => k ≤ (blkA f b).Edges.length ∧ ∀ j, j < k → I (edT f b j) = false) (fun k => (blkA f b).Edges.length - k) 0 ⟨Nat.zero_le _, fun j h => absurd h (Nat.not_lt_zero _)⟩ ?_ ?_
 ·refine And.intro ?_ trivial
  repeat' (first|exact rfl|exact trivial|refine And.intro ?_ ?_)
 rintro k ⟨hk0, hK⟩
 repeat (first|apply zq|apply zb|apply zk)
 apply zr
 intro _
 repeat (first|apply zq|apply zb|apply zk)
 refine AWp.cond (And.intro (fun h1 => ?_) (fun h1 => ?_))
 ·have hk : k < (blkA f b).Edges.length := Int.ofNat_lt.1 (of_decide_eq_true h1)
  have hE := hC.e.edge b k hb hk
  have hE1 : 0 ≤ (edE f b k).Block ∧ (edE f b k).Block < f.Blocks.length := ⟨Int.le_of_lt hE.1, hE.2⟩
  repeat (first|apply zq|apply zb|apply zk)
  apply zr
  repeat' (first|exact trivial|refine And.intro ?_ ?_|fail)
  all_goals first|exact fun _ => nn (hk)|exact fun _ => hE1|skip
  intro _
  repeat (first|apply zq|apply zb|apply zk)
  refine AWp.cond (And.intro (fun h2 => ?_) (fun h2 => ?_))
  ·have h2 : I (edT f b k) = true := h2
   repeat (first|apply zq|apply zb|apply zk)
   apply zr
   intro _
   refine AWp.ret ⟨Or.inl rfl, rfl, ?_⟩
   intro _
   refine tupB ?_
   rw [anyB_hit (p := fun k => I (edT f b k)) hk h2]; rfl
  ·have h2 : I (edT f b k) = false := h2
   repeat (first|apply zq|apply zb|apply zk)
   apply zr
   intro _
   refine round_end (k + 1) ⟨hk, none_succ (p := fun j => I (edT f b j)) hK h2⟩ ?_ (by omega)
   refine And.intro ?_ trivial
   repeat' (first|exact rfl|exact trivial|exact congrArg (fun z => some (AV.i64 z)) (wrap_succ hk hem)|refine And.intro ?_ ?_)
 ·have hk3 : ¬ (k : Int) < (blkA f b).Edges.length := of_decide_eq_false h1
  obtain rfl : k = (blkA f b).Edges.length := by omega
  apply ze
  repeat (first|apply zq|apply zb|apply zk)
  apply zr
  repeat' (first|exact trivial|refine And.intro ?_ ?_|refine CallX.pure (c_argOf (blkA f b) hx v) rfl rfl rfl ?_|fail)
  intro _
  refine AWp.ret ⟨Or.inl rfl, rfl, ?_⟩
  intro _
  refine tupB ?_
  rw [anyB_none (p := fun k => I (edT f b k)) hK]; rfl
end Go.Proofs.Ytjjgjflbhpoloaa
/- Contracts of live's Put and Drop on a set of one's own. Condition: numbers that have a word. -/
namespace Go.Proofs.Ytjjgjflbhpoloaa
open Go Go.Abs Go.RowKit Go.Abs.Gra
set_option maxHeartbeats 1000000 in
theorem m_PutR {k v : Nat} (S : Nat → Bool) {z : Int} (hz : (v : Int) = z) (hv : v / 64 < k) (hm : v ≤ 1000000) :
  ACallM B.P 97 ⟨[.sl 1001 k, .i64 z], [(1001, rowU k S)], .tup [], [(1001, rowU k (putS S v))]⟩ := by
 subst hz
 have hd := w_div (v := v) (by omega)
 refine ACallM.enter B _ _ Try.func97 rfl rfl Try.ntmps97 Try.results97 rfl ?_ fun hreal => ?_
 ·refine And.intro (And.intro trivial trivial) (And.intro (And.intro rfl (And.intro trivial trivial)) (And.intro trivial trivial))
 clear hreal
 repeat (first|apply zq|apply zb|apply zk)
 refine AWp.quietP (.q 0 (.q 1 (.q 2 (.q 3 (.q 5 (.q 6 (.q 7 (.c 4 false (.q 8 (.q 9 (.c 10 true .fin .no))) .no)))))))) [0, 1, 2, 3, 5, 6, 7, 8, 9] [] mixed (by kernel_rfl) ?_
 repeat' refine And.intro ?_ ?_
 all_goals first|exact (by decide : (64 : Int) ≠ 0)|exact mod_nn|exact fun _ => mod_nn|exact fun _ => (by rw [hd]; omega)|exact (by rw [hd]; omega : (IntKind.i64.wrap ((v : Int).tdiv 64)).toNat < k)|exact trivial|skip
 intro _
 refine ⟨Or.inr rfl, ?_⟩
 intro _
 refine And.intro rfl (And.intro trivial (And.intro ⟨_, _, rfl, rfl, fun i hi => ?_⟩ (And.intro trivial trivial)))
 show bitC (putS S v) i = _
 rw [hd, Int.toNat_natCast, one_bit']
 exact put_row
set_option maxHeartbeats 1000000 in
theorem m_DropR {k v : Nat} (S : Nat → Bool) {z : Int} (hz : (v : Int) = z) (hv : v / 64 < k) (hm : v ≤ 1000000) :
  ACallM B.P 96 ⟨[.sl 1001 k, .i64 z], [(1001, rowU k S)], .tup [], [(1001, rowU k (dropS S v))]⟩ := by
 subst hz
 have hd := w_div (v := v) (by omega)
 refine ACallM.enter B _ _ Try.func96 rfl rfl Try.ntmps96 Try.results96 rfl ?_ fun hreal => ?_
 ·refine And.intro (And.intro trivial trivial) (And.intro (And.intro rfl (And.intro trivial trivial)) (And.intro trivial trivial))
 clear hreal
 repeat (first|apply zq|apply zb|apply zk)
 refine AWp.quietP (.q 0 (.q 1 (.q 2 (.q 3 (.q 5 (.q 6 (.q 7 (.c 4 false (.q 8 (.q 9 (.c 10 true .fin .no))) .no)))))))) [0, 1, 2, 3, 5, 6, 7, 8, 9] [] mixed (by kernel_rfl) ?_
 repeat' refine And.intro ?_ ?_
 all_goals first|exact (by decide : (64 : Int) ≠ 0)|exact mod_nn|exact fun _ => mod_nn|exact fun _ => (by rw [hd]; omega)|exact (by rw [hd]; omega : (IntKind.i64.wrap ((v : Int).tdiv 64)).toNat < k)|exact trivial|skip
 intro _
 refine ⟨Or.inr rfl, ?_⟩
 intro _
 refine And.intro rfl (And.intro trivial (And.intro ⟨_, _, rfl, rfl, fun i hi => ?_⟩ (And.intro trivial trivial)))
 show bitC (dropS S v) i = _
 rw [hd, Int.toNat_natCast, one_bit']
 exact drop_row
set_option maxHeartbeats 2000000 in
theorem m_AddR {ix : List Nat} {D : List Nat → Prop} (hD : D ix) {k : Nat} (S : List Nat → Nat → Bool) (T : Nat → Bool) (hk : k ≤ 1000000) :
  ACallM B.P 124 ⟨[.sl ⟨1001, ix⟩ k, .sl 1002 k], [(1001, famU D k S), (1002, rowU k T)], .bool (grw (S ix) (T) k), [(1001, famU D k (setF S ix (fun v => S ix v || T v))), (1002, rowU k T)]⟩ := by
 have hkl : k ≤ maxLen := by unfold maxLen; omega
 refine ACallM.enter B _ _ Try.func124 rfl rfl Try.ntmps124 Try.results124 rfl ?_ fun hreal => ?_
 ·refine And.intro (And.intro (fun jx h => trivial) (And.intro trivial trivial)) (And.intro (And.intro hD (And.intro rfl trivial)) (And.intro (fun jx h => h) (And.intro trivial trivial)))
 clear hreal
 repeat (first|apply zq|apply zb|apply zk)
 apply zr
 intro _
 repeat (first|apply zq|apply zb|apply zk)
 apply zr
 intro _
 repeat (first|apply zq|apply zb|apply zk)
 apply zr
 intro _
 repeat (first|apply zq|apply zb|apply zk)
 refine AWp.loop (fun j : Nat => ⟨[(0, .sl ⟨1001, ix⟩ k), (1, .sl 1002 k), (5, .bool (grw (S ix) (T) j)), (8, .i64 k), (9, .i64 j)], [(1001, famU D k (setF S ix (upS (S ix) (T) j))), (1002, rowU k T)]⟩) (fun j => j ≤ k) (fun j => k - j) 0 (Nat.zero_le _) ?_ ?_
 ·refine And.intro ?_ (And.intro ⟨_, _, rfl, fun z hz => ⟨hz, _, _, rfl, rfl, fun i hi => ?_⟩⟩ (And.intro (fun z hz => trivial) (And.intro ⟨_, _, rfl, rfl, fun i hi => rfl⟩ (And.intro trivial trivial))))
  ·refine And.intro rfl (And.intro hD (And.intro rfl (And.intro rfl ?_)))
   repeat' (first|exact rfl|exact trivial|refine And.intro ?_ ?_)
  ·by_cases e : z = ix
   ·subst e
    show bitC (setF S z _ z) i = bitC (S z) i
    rw [setF_same]
    exact congrArg (fun q => [AV.int .u64 q]) (wrd_congr fun t ht => by unfold upS; simp)
   ·exact congrArg (fun q => bitC q i) (setF_ne e)
 intro j hj
 repeat (first|apply zq|apply zb|apply zk)
 apply zr
 intro _
 repeat (first|apply zq|apply zb|apply zk)
 refine AWp.cond (And.intro (fun h1 => ?_) (fun h1 => ?_))
 ·have hj' : j < k := Int.ofNat_lt.1 (of_decide_eq_true h1)
  repeat (first|apply zq|apply zb|apply zk)
  apply zr
  intro _
  repeat (first|apply zq|apply zb|apply zk)
  refine AWp.draw mixed (by kernel_rfl) ?_
  repeat' refine And.intro ?_ ?_
  all_goals first|exact fun _ => hD|exact fun _ => hj'|exact fun _ => (nn (hj'))|skip
  intro _
  repeat (first|apply zq|apply zb|apply zk)
  refine AWp.cond (And.intro (fun h2 => ?_) (fun h2 => ?_))
  ·have hn : newW (S ix) (T) j = true := by
    have h2 : (bits .andNot .u64 (wrd (T) ((j : Int)).toNat) (wrd (setF S ix (upS (S ix) (T) j) ix) ((j : Int)).toNat) != 0) = true := h2
    rw [setF_same, Int.toNat_natCast, wrd_andNot, up_word] at h2
    exact h2
   repeat (first|apply zq|apply zb|apply zk)
   refine AWp.quietP (.q 0 (.q 1 (.q 2 (.q 4 (.q 5 (.q 6 (.q 7 (.c 3 false (.q 8 (.q 9 (.c 10 true .fin .no))) .no)))))))) [0, 1, 2, 4, 5, 6, 7, 8, 9] [1002] mixed (by kernel_rfl) ?_
   repeat' (first|exact trivial|refine And.intro ?_ ?_)
   all_goals first|exact fun _ => hD|exact fun _ => hj'|exact fun _ => (nn (hj'))|exact hj'|skip
   intro _
   repeat (first|apply zq|apply zb|apply zk)
   apply zr
   intro _
   repeat (first|apply zq|apply zb|apply zk)
   apply zr
   intro _
   refine round_end (j + 1) hj' ?_ (by omega)
   refine And.intro ?_ (And.intro ⟨_, _, rfl, fun z hz => ⟨hz, sub1_sel (fun e i hi => ?_) (fun e i hi => ?_)⟩⟩ (And.intro (fun z hz => trivial) (And.intro ⟨_, _, rfl, rfl, fun i hi => rfl⟩ (And.intro trivial trivial))))
   ·refine And.intro rfl (And.intro hD (And.intro rfl (And.intro rfl (And.intro ?_ ?_))))
    ·rw [grw_succ, hn, Bool.or_true]; rfl
    ·repeat' (first|exact rfl|exact trivial|exact congrArg (fun z => some (AV.i64 z)) (wrap_succ hj' hkl)|refine And.intro ?_ ?_)
   ·subst e
    show bitC (setF S z _ z) i = if i = ((j : Int)).toNat then [AV.int .u64 (bits .or .u64 (wrd (setF S z (upS (S z) (T) j) z) ((j : Int)).toNat) (wrd (T) ((j : Int)).toNat))] else bitC (setF S z (upS (S z) (T) j) z) i
    rw [setF_same, setF_same, Int.toNat_natCast]
    exact up_row
   ·show bitC (setF S ix _ z) i = bitC (setF S ix _ z) i
    rw [setF_ne e, setF_ne e]
  ·have hn : newW (S ix) (T) j = false := by
    have h2 : (bits .andNot .u64 (wrd (T) ((j : Int)).toNat) (wrd (setF S ix (upS (S ix) (T) j) ix) ((j : Int)).toNat) != 0) = false := h2
    rw [setF_same, Int.toNat_natCast, wrd_andNot, up_word] at h2
    exact h2
   repeat (first|apply zq|apply zb|apply zk)
   apply zr
   intro _
   refine round_end (j + 1) hj' ?_ (by omega)
   refine And.intro ?_ (And.intro ⟨_, _, rfl, fun z hz => ⟨hz, _, _, rfl, rfl, fun i hi => ?_⟩⟩ (And.intro (fun z hz => trivial) (And.intro ⟨_, _, rfl, rfl, fun i hi => rfl⟩ (And.intro trivial trivial))))
   ·refine And.intro rfl (And.intro hD (And.intro rfl (And.intro rfl (And.intro ?_ ?_))))
    ·rw [grw_succ, hn, Bool.or_false]; rfl
    ·repeat' (first|exact rfl|exact trivial|exact congrArg (fun z => some (AV.i64 z)) (wrap_succ hj' hkl)|refine And.intro ?_ ?_)
   ·show bitC (setF S ix _ z) i = bitC (setF S ix _ z) i
    by_cases e : z = ix
    ·subst e
     rw [setF_same, setF_same]
     exact up_same hn
    ·rw [setF_ne e, setF_ne e]
 ·have hj3 : ¬ (j : Int) < k := of_decide_eq_false h1
  obtain rfl : j = k := by omega
  apply ze
  repeat (first|apply zq|apply zb|apply zk)
  apply zr
  intro _
  refine AWp.ret ⟨Or.inl rfl, ?_⟩
  intro _
  refine And.intro rfl (And.intro trivial (And.intro ⟨_, _, rfl, fun z hz => ⟨hz, _, _, rfl, rfl, fun i hi => ?_⟩⟩ (And.intro (fun z hz => trivial) (And.intro ⟨_, _, rfl, rfl, fun i hi => rfl⟩ (And.intro trivial trivial)))))
  show bitC (setF S ix _ z) i = bitC (setF S ix _ z) i
  by_cases e : z = ix
  ·subst e
   rw [setF_same, setF_same]
   exact up_all hi
  ·rw [setF_ne e, setF_ne e]
end Go.Proofs.Ytjjgjflbhpoloaa
/- Contract of live.made. Condition: a block's numbers are values. -/
namespace Go.Proofs.Ytjjgjflbhpoloaa
open Go Go.Abs Go.RowKit Go.Abs.Gra
def mdP (ps : List Int) : Nat → Nat → Bool
 | 0 => nonS
 | i + 1 => putS (mdP ps i) (ps.getD i default).toNat
def mdO (x : Ins) (S : Nat → Bool) : Nat → Nat → Bool
 | 0 => S
 | k + 1 => if (x.Operands.getD k default).Kind = 2 then putS (mdO x S k) (x.Operands.getD k default).Value.toNat else mdO x S k
theorem mdO_yes {x : Ins} {S : Nat → Bool} {k : Nat} (h : (x.Operands.getD k default).Kind = 2) : mdO x S (k + 1) = putS (mdO x S k) (x.Operands.getD k default).Value.toNat := if_pos h
theorem mdO_no {x : Ins} {S : Nat → Bool} {k : Nat} (h : ¬ (x.Operands.getD k default).Kind = 2) : mdO x S (k + 1) = mdO x S k := if_neg h
def mdI (x : Blk) (S : Nat → Bool) : Nat → Nat → Bool
 | 0 => S
 | i + 1 => mdO (x.Instrs.getD i default) (mdI x S i) (x.Instrs.getD i default).Operands.length
@[reducible] def mdS (x : Blk) : Nat → Bool := mdI x (mdP x.Params x.Params.length) x.Instrs.length
structure BlkV (V : Nat) (x : Blk) : Prop where
 p : ∀ i, i < x.Params.length → 0 ≤ x.Params.getD i default ∧ x.Params.getD i default < V
 o : ∀ i k, i < x.Instrs.length → k < (x.Instrs.getD i default).Operands.length → 0 ≤ ((x.Instrs.getD i default).Operands.getD k default).Value ∧ ((x.Instrs.getD i default).Operands.getD k default).Value < V
theorem nat_of {V : Nat} {z : Int} {k : Nat} (h : 0 ≤ z ∧ z < V) (hV : V ≤ 160) (hk : k = nW V) : ((z.toNat : Nat) : Int) = z ∧ z.toNat / 64 < k ∧ z.toNat ≤ 1000000 := by
 subst hk
 refine ⟨by omega, ?_, by omega⟩
 show _ < (V + 63) / 64
 omega
set_option maxHeartbeats 2000000 in
theorem c_made (f : Fun) (x : Blk) (hx : BlkS x) {k : Nat} (hV : f.Values.length ≤ 160) (hk : k = nW f.Values.length) (hv : BlkV f.Values.length x) :
  ACallM B.P 125 ⟨[f.av, x.av], [], .sl 6 k, [(6, rowU k (mdS x))]⟩ := by
 have hpm := hx.p
 have him := hx.i
 have hfr := c_fresh f.Values.length (by omega)
 rw [← hk] at hfr
 refine ACallM.enter B _ _ Try.func125 rfl rfl Try.ntmps125 Try.results125 rfl ?_ fun hreal => ?_
 ·refine And.intro trivial (And.intro ?_ trivial)
  repeat' (first|exact rfl|exact trivial|refine And.intro ?_ ?_)
 clear hreal
 repeat (first|apply zq|apply zb|apply zk)
 apply zr
 intro _
 refine AWp.freezeObj 2 rfl rfl ?_
 refine AWp.freezeObj 3 rfl rfl ?_
 repeat (first|apply zq|apply zb|apply zk)
 apply zr
 repeat' (first|exact trivial|refine And.intro ?_ ?_|refine CallX.lend hfr [(6, 6)] rfl trivial rfl ?_|fail)
 intro _
 repeat (first|apply zq|apply zb|apply zk)
 apply zr
 intro _
 repeat (first|apply zq|apply zb|apply zk)
 refine AWp.loop (fun i : Nat => ⟨[(3, .ptr x.cells), (5, .sl 6 k), (17, ints x.Params), (18, .i64 x.Params.length), (19, .i64 i)], [(6, rowU k (mdP x.Params i))]⟩) (fun i => i ≤ x.Params.length) (fun i => x.Params.length - i) 0 (Nat.zero_le _) ?_ ?_
 ·refine And.intro ?_ (And.intro (⟨_, _, rfl, rfl, fun i hi => rfl⟩) (And.intro (trivial) (trivial)))
  all_goals repeat' (first|exact rfl|exact trivial|refine And.intro ?_ ?_)
 intro i hi0
 repeat (first|apply zq|apply zb|apply zk)
 apply zr
 intro _
 repeat (first|apply zq|apply zb|apply zk)
 refine AWp.cond (And.intro (fun h1 => ?_) (fun h1 => ?_))
 ·have hi : i < x.Params.length := Int.ofNat_lt.1 (of_decide_eq_true h1)
  have hn := nat_of (hv.p i hi) hV hk
  repeat (first|apply zq|apply zb|apply zk)
  apply zr
  repeat' (first|exact trivial|refine And.intro ?_ ?_|fail)
  all_goals first|exact fun _ => nn (hi)|skip
  intro _
  repeat (first|apply zq|apply zb|apply zk)
  apply zr
  repeat' (first|exact trivial|refine And.intro ?_ ?_|refine CallX.lend (m_PutR (mdP x.Params i) hn.1 hn.2.1 hn.2.2) [(1001, 6)] rfl (And.intro rfl trivial) rfl ?_|fail)
  intro _
  repeat (first|apply zq|apply zb|apply zk)
  apply zr
  intro _
  refine round_end (i + 1) hi ?_ (by omega)
  refine And.intro ?_ (And.intro (⟨_, _, rfl, rfl, fun i hi => rfl⟩) (And.intro (trivial) (trivial)))
  all_goals repeat' (first|exact rfl|exact trivial|exact congrArg (fun z => some (AV.i64 z)) (wrap_succ hi hpm)|refine And.intro ?_ ?_)
 have hi3 : ¬ (i : Int) < x.Params.length := of_decide_eq_false h1
 obtain rfl : i = x.Params.length := by omega
 clear h1 hi3 hi0
 apply ze
 repeat (first|apply zq|apply zb|apply zk)
 apply zr
 intro _
 repeat (first|apply zq|apply zb|apply zk)
 refine AWp.loop (fun i : Nat => ⟨[(5, .sl 6 k), (28, roL 3 Ins.cells x.Instrs), (29, .i64 x.Instrs.length), (30, .i64 i)], [(6, rowU k (mdI x (mdP x.Params x.Params.length) i))]⟩) (fun i => i ≤ x.Instrs.length) (fun i => x.Instrs.length - i) 0 (Nat.zero_le _) ?_ ?_
 ·refine And.intro ?_ (And.intro (⟨_, _, rfl, rfl, fun i hi => rfl⟩) (And.intro (trivial) (trivial)))
  all_goals repeat' (first|exact rfl|exact trivial|refine And.intro ?_ ?_)
 intro i hi0
 repeat (first|apply zq|apply zb|apply zk)
 apply zr
 intro _
 repeat (first|apply zq|apply zb|apply zk)
 refine AWp.cond (And.intro (fun h1 => ?_) (fun h1 => ?_))
 ·have hi : i < x.Instrs.length := Int.ofNat_lt.1 (of_decide_eq_true h1)
  have hom := hx.o i hi
  repeat (first|apply zq|apply zb|apply zk)
  apply zr
  repeat' (first|exact trivial|refine And.intro ?_ ?_|fail)
  all_goals first|exact fun _ => nn (hi)|skip
  intro _
  refine AWp.freezeObj 9 rfl rfl ?_
  repeat (first|apply zq|apply zb|apply zk)
  apply zr
  intro _
  repeat (first|apply zq|apply zb|apply zk)
  refine AWp.loop (fun q : Nat => ⟨[(5, .sl 6 k), (28, roL 3 Ins.cells x.Instrs), (29, .i64 x.Instrs.length), (30, .i64 i), (35, roL 5 Opd.cells (x.Instrs.getD i default).Operands), (36, .i64 (x.Instrs.getD i default).Operands.length), (37, .i64 q)], [(6, rowU k (mdO (x.Instrs.getD i default) (mdI x (mdP x.Params x.Params.length) i) q))]⟩) (fun q => q ≤ (x.Instrs.getD i default).Operands.length) (fun q => (x.Instrs.getD i default).Operands.length - q) 0 (Nat.zero_le _) ?_ ?_
  ·refine And.intro ?_ (And.intro (⟨_, _, rfl, rfl, fun i hi => rfl⟩) (And.intro (trivial) (trivial)))
   all_goals repeat' (first|exact rfl|exact trivial|refine And.intro ?_ ?_)
  intro q hq0
  repeat (first|apply zq|apply zb|apply zk)
  apply zr
  intro _
  repeat (first|apply zq|apply zb|apply zk)
  refine AWp.cond (And.intro (fun h2 => ?_) (fun h2 => ?_))
  ·have hq : q < (x.Instrs.getD i default).Operands.length := Int.ofNat_lt.1 (of_decide_eq_true h2)
   have hn := nat_of (hv.o i q hi hq) hV hk
   repeat (first|apply zq|apply zb|apply zk)
   apply zr
   repeat' (first|exact trivial|refine And.intro ?_ ?_|fail)
   all_goals first|exact fun _ => nn (hq)|skip
   intro _
   refine AWp.freezeObj 11 rfl rfl ?_
   repeat (first|apply zq|apply zb|apply zk)
   apply zr
   intro _
   repeat (first|apply zq|apply zb|apply zk)
   refine AWp.mono (Q := fun e t => e = .normal ∧ Sub ⟨[(5, .sl 6 k), (28, roL 3 Ins.cells x.Instrs), (29, .i64 x.Instrs.length), (30, .i64 i), (35, roL 5 Opd.cells (x.Instrs.getD i default).Operands), (36, .i64 (x.Instrs.getD i default).Operands.length), (37, .i64 q)], [(6, rowU k (mdO (x.Instrs.getD i default) (mdI x (mdP x.Params x.Params.length) i) (q + 1)))]⟩ t) ?_ ?_
   ·repeat (first|apply zq|apply zb|apply zk)
    refine AWp.cond (And.intro (fun h3 => ?_) (fun h3 => ?_))
    ·have h3 : ((x.Instrs.getD i default).Operands.getD q default).Kind = 2 := by
      have h3 : (((x.Instrs.getD i default).Operands.getD q default).Kind == 2) = true := h3
      simpa using h3
     rw [mdO_yes h3]
     repeat (first|apply zq|apply zb|apply zk)
     apply zr
     repeat' (first|exact trivial|refine And.intro ?_ ?_|refine CallX.lend (m_PutR (mdO (x.Instrs.getD i default) (mdI x (mdP x.Params x.Params.length) i) q) hn.1 hn.2.1 hn.2.2) [(1001, 6)] rfl (And.intro rfl trivial) rfl ?_|fail)
     intro _
     refine And.intro rfl ?_
     refine And.intro ?_ (And.intro (⟨_, _, rfl, rfl, fun i hi => rfl⟩) (And.intro (trivial) (trivial)))
     all_goals repeat' (first|exact rfl|exact trivial|refine And.intro ?_ ?_)
    ·have h3 : ¬ ((x.Instrs.getD i default).Operands.getD q default).Kind = 2 := by
      have h3 : (((x.Instrs.getD i default).Operands.getD q default).Kind == 2) = false := h3
      simpa using h3
     rw [mdO_no h3]
     refine AWp.skip ?_
     refine And.intro rfl ?_
     refine And.intro ?_ (And.intro (⟨_, _, rfl, rfl, fun i hi => rfl⟩) (And.intro (trivial) (trivial)))
     all_goals repeat' (first|exact rfl|exact trivial|refine And.intro ?_ ?_)
   rintro _ _ ⟨rfl, hs⟩
   refine AWp.weaken hs ?_
   repeat (first|apply zq|apply zb|apply zk)
   apply zr
   intro _
   refine round_end (q + 1) hq ?_ (by omega)
   refine And.intro ?_ (And.intro (⟨_, _, rfl, rfl, fun i hi => rfl⟩) (And.intro (trivial) (trivial)))
   all_goals repeat' (first|exact rfl|exact trivial|exact congrArg (fun z => some (AV.i64 z)) (wrap_succ hq hom)|refine And.intro ?_ ?_)
  ·have hq3 : ¬ (q : Int) < (x.Instrs.getD i default).Operands.length := of_decide_eq_false h2
   obtain rfl : q = (x.Instrs.getD i default).Operands.length := by omega
   apply ze
   repeat (first|apply zq|apply zb|apply zk)
   apply zr
   intro _
   refine round_end (i + 1) hi ?_ (by omega)
   refine And.intro ?_ (And.intro (⟨_, _, rfl, rfl, fun i hi => rfl⟩) (And.intro (trivial) (trivial)))
   all_goals repeat' (first|exact rfl|exact trivial|exact congrArg (fun z => some (AV.i64 z)) (wrap_succ hi him)|refine And.intro ?_ ?_)
 ·have hi3 : ¬ (i : Int) < x.Instrs.length := of_decide_eq_false h1
  obtain rfl : i = x.Instrs.length := by omega
  apply ze
  repeat (first|apply zq|apply zb|apply zk)
  apply zr
  intro _
  refine AWp.ret ⟨Or.inl rfl, ?_⟩
  intro _
  exact And.intro rfl (And.intro rfl (And.intro ⟨_, _, rfl, rfl, fun i hi => rfl⟩ (And.intro trivial trivial)))
end Go.Proofs.Ytjjgjflbhpoloaa
/- Contract of live's round. Condition: a checked function. -/
namespace Go.Proofs.Ytjjgjflbhpoloaa
open Go Go.Abs Go.RowKit Go.Abs.Gra
def ptA (az : List Int) (S : Nat → Bool) : Nat → Nat → Bool
 | 0 => S
 | j + 1 => putS (ptA az S j) (az.getD j default).toNat
def rdO (f : Fun) (b : Nat) (A : Knw) (S : Nat → Bool) : Nat → Nat → Bool
 | 0 => S
 | q + 1 => fun v => ptA (edE f b q).Args (rdO f b A S q) (edE f b q).Args.length v || A (edT f b q) v
def usO (x : Ins) (S : Nat → Bool) : Nat → Nat → Bool
 | 0 => S
 | k + 1 => if (x.Operands.getD k default).Kind = 1 then putS (usO x S k) (x.Operands.getD k default).Value.toNat else usO x S k
theorem usO_yes {x : Ins} {S : Nat → Bool} {k : Nat} (h : (x.Operands.getD k default).Kind = 1) : usO x S (k + 1) = putS (usO x S k) (x.Operands.getD k default).Value.toNat := if_pos h
theorem usO_no {x : Ins} {S : Nat → Bool} {k : Nat} (h : ¬ (x.Operands.getD k default).Kind = 1) : usO x S (k + 1) = usO x S k := if_neg h
def usI (x : Blk) (S : Nat → Bool) : Nat → Nat → Bool
 | 0 => S
 | i + 1 => usO (x.Instrs.getD i default) (usI x S i) (x.Instrs.getD i default).Operands.length
def drL (L : List Nat) (S : Nat → Bool) : Nat → Nat → Bool
 | 0 => S
 | j + 1 => dropS (drL L S j) (L.getD j 0)
@[reducible] def rdOut (f : Fun) (b : Nat) (A O : Knw) : Nat → Bool := rdO f b A (O b) (blkA f b).Edges.length
@[reducible] def rdIn (f : Fun) (b : Nat) (A O : Knw) : Nat → Bool := drL (lstS (mdS (blkA f b)) f.Values.length) (usI (blkA f b) (rdOut f b A O) (blkA f b).Instrs.length) (lstS (mdS (blkA f b)) f.Values.length).length
@[reducible] def ndH (f : Fun) (n k : Nat) (A O : Knw) : List (Nat × HO) := [(1001, .cells (f.cells ++ [.sl 1002 n, .sl 1004 n])), (1002, stR 1003 n k), (1003, stW n k A), (1004, stR 1005 n k), (1005, stW n k O)]
theorem setK_self {K : Knw} {c j : Nat} : setK K c (K c) j = K j := by
 unfold setK
 by_cases e : j = c
 ·rw [if_pos e, e]
 ·rw [if_neg e]
theorem setK_two {K : Knw} {c j : Nat} {R S : Nat → Bool} : setK (setK K c R) c S j = setK K c S j := by
 unfold setK
 by_cases e : j = c
 ·rw [if_pos e, if_pos e]
 ·rw [if_neg e, if_neg e, if_neg e]
theorem setK_put {K : Knw} {c j w : Nat} {R : Nat → Bool} : setK (setK K c R) c (putS (setK K c R c) w) j = setK K c (putS R w) j := by
 rw [show setK K c R c = R from if_pos rfl]; exact setK_two
theorem setK_add {K : Knw} {c j : Nat} {R T : Nat → Bool} : setK (setK K c R) c (fun v => setK K c R c v || T v) j = setK K c (fun v => R v || T v) j := by
 rw [show setK K c R c = R from if_pos rfl]; exact setK_two
theorem blkV_of {f : Fun} (hC : Chkd f) (hf : Fun.ok f) {b : Nat} (hb : b < f.Blocks.length) : BlkV f.Values.length (blkA f b) := by
 refine ⟨fun i hi => ?_, fun i k hi hk => idx_ok (hC.opv b i k hb hi hk)⟩
 have hm : (blkA f b).Params.getD i default ∈ (blkA f b).Params := by
  rw [List.getD_eq_getElem?_getD, List.getElem?_eq_getElem hi]; exact List.getElem_mem hi
 exact (nodup_of hC.ok).2 _ (by rw [← evL_map]; exact List.mem_map.2 ⟨_, ev_param hb hm, rfl⟩)
theorem lstS_lt {S : Nat → Bool} {n j : Nat} (h : j < (lstS S n).length) : (lstS S n).getD j 0 < n := by
 have hm : (lstS S n).getD j 0 ∈ lstS S n := by
  rw [List.getD_eq_getElem?_getD, List.getElem?_eq_getElem h]; exact List.getElem_mem h
 unfold lstS at hm
 exact List.mem_range.1 (List.mem_filter.1 hm).1
theorem setK_at {K : Knw} {c : Nat} {R : Nat → Bool} : setK K c R c = R := if_pos rfl
set_option maxHeartbeats 8000000 in
theorem m_round (f : Fun) (hC : Chkd f) (hf : Fun.ok f) {k : Nat} (hk : k = nW f.Values.length) (A O : Knw) (b : Nat) (hb : b < f.Blocks.length) :
  ACallM B.P 76 ⟨[.obj 1001 0, .i64 b], ndH f f.Blocks.length k A O, .bool (grw (A b) (rdIn f b A O) k), ndH f f.Blocks.length k (setK A b (fun v => A b v || rdIn f b A O v)) (setK O b (rdOut f b A O))⟩ := by
 have hz5 := hC.e.siz
 have hvl := hz5.values
 have hkk : k ≤ 1000000 := by subst hk; show (f.Values.length + 63) / 64 ≤ _; omega
 have hx := blkS_of hC hf hb
 have hv := blkV_of hC hf hb
 have hem := hx.e
 have him := hx.i
 have hlm : (lstS (mdS (blkA f b)) f.Values.length).length ≤ maxLen := by have := lstS_len (S := mdS (blkA f b)) f.Values.length; unfold maxLen; omega
 have hnv : ∀ v, v < f.Values.length → v / 64 < k := fun v hv => by subst hk; show _ < (f.Values.length + 63) / 64; omega
 refine ACallM.enter B _ _ Try.func76 rfl rfl Try.ntmps76 Try.results76 rfl ?_ fun hreal => ?_
 ·refine And.intro (And.intro ?_ (And.intro (fun i hi => And.intro ⟨i, hi, rfl⟩ trivial) (And.intro (fun z hz => trivial) (And.intro (fun i hi => And.intro ⟨i, hi, rfl⟩ trivial) (And.intro (fun z hz => trivial) trivial))))) (And.intro (And.intro rfl (And.intro trivial trivial)) (And.intro trivial (And.intro trivial (And.intro (fun ix h => h) (And.intro trivial (And.intro (fun ix h => h) trivial))))))
  repeat' (first|exact rfl|exact trivial|refine And.intro ?_ ?_)
 clear hreal
 repeat (first|apply zq|apply zb|apply zk)
 apply zr
 intro _
 repeat (first|apply zq|apply zb|apply zk)
 apply zr
 repeat' (first|exact trivial|refine And.intro ?_ ?_|fail)
 all_goals first|exact fun _ => nn (hb)|skip
 intro _
 refine AWp.freezeObj 5 rfl rfl ?_
 repeat (first|apply zq|apply zb|apply zk)
 apply zr
 intro _
 repeat (first|apply zq|apply zb|apply zk)
 refine AWp.loop (fun q : Nat => ⟨[(0, .obj 1001 0), (1, .i64 b), (5, .ptr (blkA f b).cells), (26, roL 2 Edg.cells (blkA f b).Edges), (27, .i64 (blkA f b).Edges.length), (28, .i64 q)], [(1001, .cells (f.cells ++ [.sl 1002 f.Blocks.length, .sl 1004 f.Blocks.length])), (1002, stR 1003 f.Blocks.length k), (1003, stW f.Blocks.length k (A)), (1004, stR 1005 f.Blocks.length k), (1005, stW f.Blocks.length k (setK O b (rdO f b A (O b) q)))]⟩) (fun q => q ≤ (blkA f b).Edges.length) (fun q => (blkA f b).Edges.length - q) 0 (Nat.zero_le _) ?_ ?_
 ·refine And.intro ?_ (And.intro (rfl) (And.intro ?_ (And.intro (⟨_, _, rfl, rfl, fun i hi => rfl⟩) (And.intro (fun i hi => And.intro ⟨i, hi, rfl⟩ trivial) (And.intro (⟨_, _, rfl, fun z hz => ⟨hz, _, _, rfl, rfl, fun i hi => rfl⟩⟩) (And.intro (fun z hz => trivial) (And.intro (⟨_, _, rfl, rfl, fun i hi => rfl⟩) (And.intro (fun i hi => And.intro ⟨i, hi, rfl⟩ trivial) (And.intro (⟨_, _, rfl, fun z hz => ⟨hz, _, _, rfl, rfl, fun i hi => congrArg (fun q => bitC q i) setK_self⟩⟩) (And.intro (fun z hz => trivial) (trivial)))))))))))
  all_goals repeat' (first|exact rfl|exact trivial|refine And.intro ?_ ?_)
 intro q hq0
 repeat (first|apply zq|apply zb|apply zk)
 apply zr
 intro _
 repeat (first|apply zq|apply zb|apply zk)
 refine AWp.cond (And.intro (fun h1 => ?_) (fun h1 => ?_))
 ·have hq : q < (blkA f b).Edges.length := Int.ofNat_lt.1 (of_decide_eq_true h1)
  have ham := hx.a q hq
  have hT := (edT_lt hC hb hq).2
  have hE := hC.e.edge b q hb hq
  have hE1 : 0 ≤ (edE f b q).Block ∧ (edE f b q).Block < f.Blocks.length := ⟨Int.le_of_lt hE.1, hE.2⟩
  repeat (first|apply zq|apply zb|apply zk)
  apply zr
  repeat' (first|exact trivial|refine And.intro ?_ ?_|fail)
  all_goals first|exact fun _ => nn (hq)|skip
  intro _
  refine AWp.freezeObj 7 rfl rfl ?_
  repeat (first|apply zq|apply zb|apply zk)
  apply zr
  intro _
  repeat (first|apply zq|apply zb|apply zk)
  refine AWp.loop (fun j : Nat => ⟨[(0, .obj 1001 0), (1, .i64 b), (5, .ptr (blkA f b).cells), (26, roL 2 Edg.cells (blkA f b).Edges), (27, .i64 (blkA f b).Edges.length), (28, .i64 q), (7, .ptr (edE f b q).cells), (33, ints (edE f b q).Args), (34, .i64 (edE f b q).Args.length), (35, .i64 j)], [(1001, .cells (f.cells ++ [.sl 1002 f.Blocks.length, .sl 1004 f.Blocks.length])), (1002, stR 1003 f.Blocks.length k), (1003, stW f.Blocks.length k (A)), (1004, stR 1005 f.Blocks.length k), (1005, stW f.Blocks.length k (setK O b (ptA (edE f b q).Args (rdO f b A (O b) q) j)))]⟩) (fun j => j ≤ (edE f b q).Args.length) (fun j => (edE f b q).Args.length - j) 0 (Nat.zero_le _) ?_ ?_
  ·refine And.intro ?_ (And.intro (rfl) (And.intro ?_ (And.intro (⟨_, _, rfl, rfl, fun i hi => rfl⟩) (And.intro (fun i hi => And.intro ⟨i, hi, rfl⟩ trivial) (And.intro (⟨_, _, rfl, fun z hz => ⟨hz, _, _, rfl, rfl, fun i hi => rfl⟩⟩) (And.intro (fun z hz => trivial) (And.intro (⟨_, _, rfl, rfl, fun i hi => rfl⟩) (And.intro (fun i hi => And.intro ⟨i, hi, rfl⟩ trivial) (And.intro (⟨_, _, rfl, fun z hz => ⟨hz, _, _, rfl, rfl, fun i hi => rfl⟩⟩) (And.intro (fun z hz => trivial) (trivial)))))))))))
   all_goals repeat' (first|exact rfl|exact trivial|refine And.intro ?_ ?_)
  intro j hj0
  repeat (first|apply zq|apply zb|apply zk)
  apply zr
  intro _
  repeat (first|apply zq|apply zb|apply zk)
  refine AWp.cond (And.intro (fun h2 => ?_) (fun h2 => ?_))
  ·have hj : j < (edE f b q).Args.length := Int.ofNat_lt.1 (of_decide_eq_true h2)
   have hn := nat_of (V := f.Values.length) (idx_ok (hC.argv b q j hb hq hj)) hvl hk
   repeat (first|apply zq|apply zb|apply zk)
   apply zr
   repeat' (first|exact trivial|refine And.intro ?_ ?_|fail)
   all_goals first|exact fun _ => nn (hj)|skip
   intro _
   repeat (first|apply zq|apply zb|apply zk)
   apply zr
   repeat' (first|exact trivial|refine And.intro ?_ ?_|refine CallX.lend (m_PutZ (D := inD f.Blocks.length) (ix := [b]) ⟨_, hb, rfl⟩ (fun ix => (setK O b (ptA (edE f b q).Args (rdO f b A (O b) q) j)) (ix.headD 0)) hn.1 hn.2.1 hn.2.2) [(1001, 1005)] rfl (And.intro rfl trivial) rfl ?_|fail)
   all_goals first|exact fun _ => nn (hb)|exact fun _ => hb|exact fun _ => ⟨_, hb, rfl⟩|skip
   intro _
   repeat (first|apply zq|apply zb|apply zk)
   apply zr
   intro _
   refine round_end (j + 1) hj ?_ (by omega)
   refine And.intro ?_ (And.intro (rfl) (And.intro ?_ (And.intro (⟨_, _, rfl, rfl, fun i hi => rfl⟩) (And.intro (fun i hi => And.intro ⟨i, hi, rfl⟩ trivial) (And.intro (⟨_, _, rfl, fun z hz => ⟨hz, _, _, rfl, rfl, fun i hi => rfl⟩⟩) (And.intro (fun z hz => trivial) (And.intro (⟨_, _, rfl, rfl, fun i hi => rfl⟩) (And.intro (fun i hi => And.intro ⟨i, hi, rfl⟩ trivial) (And.intro (⟨_, _, rfl, fun z hz => ⟨hz, _, _, rfl, rfl, fun i hi => congrArg (fun q => bitC q i) ((setF_K hz).trans setK_put).symm⟩⟩) (And.intro (fun z hz => trivial) (trivial)))))))))))
   all_goals repeat' (first|exact rfl|exact trivial|exact congrArg (fun z => some (AV.i64 z)) (wrap_succ hj ham)|refine And.intro ?_ ?_)
  have hj3 : ¬ (j : Int) < (edE f b q).Args.length := of_decide_eq_false h2
  obtain rfl : j = (edE f b q).Args.length := by omega
  apply ze
  repeat (first|apply zq|apply zb|apply zk)
  refine AWp.quietU (.q 0 [1001, 1002, 1003, 1004, 1005] (.q 1 [1001, 1002, 1003, 1004, 1005] (.q 2 [1001, 1002, 1003, 1004, 1005] (.q 3 [1001, 1002, 1003, 1004, 1005] (.q 4 [1001, 1002, 1003, 1004, 1005] (.q 5 [1001, 1002, 1003, 1004, 1005] (.q 6 [1001, 1002, 1003, 1004, 1005] (.q 7 [1001, 1002, 1003, 1004, 1005] (.q 8 [1001, 1002, 1003, 1004, 1005] (.q 9 [1001, 1002, 1003, 1004, 1005] (.q 10 [1001, 1002, 1003, 1004, 1005] (.q 11 [1001, 1002, 1003, 1004, 1005] (.q 12 [1001, 1002, 1003, 1004, 1005] (.q 13 [1001, 1002, 1003, 1004, 1005] (.q 14 [1001, 1002, 1003, 1004, 1005] (.k 15 [] .fin .no)))))))))))))))) [(0, [1001, 1002, 1003, 1004, 1005]), (1, [1001, 1002, 1003, 1004, 1005]), (2, [1001, 1002, 1003, 1004, 1005]), (3, [1001, 1002, 1003, 1004, 1005]), (4, [1001, 1002, 1003, 1004, 1005]), (5, [1001, 1002, 1003, 1004, 1005]), (6, [1001, 1002, 1003, 1004, 1005]), (7, [1001, 1002, 1003, 1004, 1005]), (8, [1001, 1002, 1003, 1004, 1005]), (9, [1001, 1002, 1003, 1004, 1005]), (10, [1001, 1002, 1003, 1004, 1005]), (11, [1001, 1002, 1003, 1004, 1005]), (12, [1001, 1002, 1003, 1004, 1005]), (13, [1001, 1002, 1003, 1004, 1005]), (14, [1001, 1002, 1003, 1004, 1005])] mixed (by kernel_rfl) ?_
  repeat' (first|exact trivial|refine And.intro ?_ ?_|refine CallX.lend (m_Add (D := inD f.Blocks.length) (E := inD f.Blocks.length) (ix := [b]) (jx := [edT f b q]) ⟨_, hb, rfl⟩ ⟨_, hT, rfl⟩ (fun ix => (setK O b (ptA (edE f b q).Args (rdO f b A (O b) q) (edE f b q).Args.length)) (ix.headD 0)) (fun ix => A (ix.headD 0)) hkk) [(1001, 1005), (1002, 1003)] rfl (And.intro rfl (And.intro rfl trivial)) rfl ?_|fail)
  all_goals first|exact fun _ => nn (hb)|exact fun _ => hb|exact fun _ => hE1|exact fun _ => hT|skip
  intro _
  repeat (first|apply zq|apply zb|apply zk)
  apply zr
  intro _
  refine round_end (q + 1) hq ?_ (by omega)
  refine And.intro ?_ (And.intro (rfl) (And.intro ?_ (And.intro (⟨_, _, rfl, rfl, fun i hi => rfl⟩) (And.intro (fun i hi => And.intro ⟨i, hi, rfl⟩ trivial) (And.intro (⟨_, _, rfl, fun z hz => ⟨hz, _, _, rfl, rfl, fun i hi => rfl⟩⟩) (And.intro (fun z hz => trivial) (And.intro (⟨_, _, rfl, rfl, fun i hi => rfl⟩) (And.intro (fun i hi => And.intro ⟨i, hi, rfl⟩ trivial) (And.intro (⟨_, _, rfl, fun z hz => ⟨hz, _, _, rfl, rfl, fun i hi => congrArg (fun q => bitC q i) ((setF_K hz).trans setK_add).symm⟩⟩) (And.intro (fun z hz => trivial) (trivial)))))))))))
  all_goals repeat' (first|exact rfl|exact trivial|exact congrArg (fun z => some (AV.i64 z)) (wrap_succ hq hem)|refine And.intro ?_ ?_)
 have hq3 : ¬ (q : Int) < (blkA f b).Edges.length := of_decide_eq_false h1
 obtain rfl : q = (blkA f b).Edges.length := by omega
 apply ze
 repeat (first|apply zq|apply zb|apply zk)
 apply zr
 repeat' (first|exact trivial|refine And.intro ?_ ?_|refine CallX.lend (m_Clone (D := inD f.Blocks.length) (ix := [b]) ⟨_, hb, rfl⟩ (fun ix => (setK O b (rdO f b A (O b) (blkA f b).Edges.length)) (ix.headD 0)) hkk) [(1001, 1005), (7, 73)] rfl (And.intro rfl trivial) rfl ?_|fail)
 all_goals first|exact fun _ => nn (hb)|exact fun _ => hb|exact fun _ => ⟨_, hb, rfl⟩|skip
 intro _
 refine AWp.via some ⟨[(0, .obj 1001 0), (1, .i64 b), (5, .ptr (blkA f b).cells), (10, .sl 73 k)], [(1001, .cells (f.cells ++ [.sl 1002 f.Blocks.length, .sl 1004 f.Blocks.length])), (1002, stR 1003 f.Blocks.length k), (1003, stW f.Blocks.length k (A)), (1004, stR 1005 f.Blocks.length k), (1005, stW f.Blocks.length k (setK O b (rdO f b A (O b) (blkA f b).Edges.length))), (73, rowU k (rdOut f b A O))]⟩ ⟨?_, ?_, fun a b c _ _ ha hb => Option.some.inj (ha.trans hb.symm), fun a _ _ => rfl⟩ ?_
 ·repeat' (first|exact rfl|exact trivial|refine And.intro ?_ ?_)
 ·refine And.intro (And.intro ⟨_, ⟨_, rfl, rfl, trivial⟩, rfl⟩ ?_) (And.intro (And.intro ⟨_, ⟨_, rfl, rfl, trivial⟩, Or.inl ⟨_, rfl, fun i hi => rfl⟩⟩ (fun i hi => And.intro ⟨i, hi, rfl⟩ trivial)) (And.intro (fun z hz => And.intro ⟨_, ⟨_, rfl, rfl, hz⟩, Or.inl ⟨_, rfl, fun i hi => rfl⟩⟩ trivial) (And.intro (And.intro ⟨_, ⟨_, rfl, rfl, trivial⟩, Or.inl ⟨_, rfl, fun i hi => rfl⟩⟩ (fun i hi => And.intro ⟨i, hi, rfl⟩ trivial)) (And.intro (fun z hz => And.intro ⟨_, ⟨_, rfl, rfl, hz⟩, Or.inl ⟨_, rfl, fun i hi => rfl⟩⟩ trivial) (And.intro (And.intro ⟨_, ⟨_, rfl, rfl, rfl⟩, Or.inl ⟨_, rfl, fun i hi => congrArg (fun q => bitC q i) setK_at⟩⟩ trivial) (trivial))))))
  all_goals repeat' (first|exact rfl|exact trivial|refine And.intro ?_ ?_)
 repeat (first|apply zq|apply zb|apply zk)
 apply zr
 intro _
 repeat (first|apply zq|apply zb|apply zk)
 refine AWp.loop (fun i : Nat => ⟨[(0, .obj 1001 0), (1, .i64 b), (5, .ptr (blkA f b).cells), (10, .sl 73 k), (75, roL 3 Ins.cells (blkA f b).Instrs), (76, .i64 (blkA f b).Instrs.length), (77, .i64 i)], [(1001, .cells (f.cells ++ [.sl 1002 f.Blocks.length, .sl 1004 f.Blocks.length])), (1002, stR 1003 f.Blocks.length k), (1003, stW f.Blocks.length k (A)), (1004, stR 1005 f.Blocks.length k), (1005, stW f.Blocks.length k (setK O b (rdO f b A (O b) (blkA f b).Edges.length))), (73, rowU k (usI (blkA f b) (rdOut f b A O) i))]⟩) (fun i => i ≤ (blkA f b).Instrs.length) (fun i => (blkA f b).Instrs.length - i) 0 (Nat.zero_le _) ?_ ?_
 ·refine And.intro ?_ (And.intro (rfl) (And.intro ?_ (And.intro (⟨_, _, rfl, rfl, fun i hi => rfl⟩) (And.intro (fun i hi => And.intro ⟨i, hi, rfl⟩ trivial) (And.intro (⟨_, _, rfl, fun z hz => ⟨hz, _, _, rfl, rfl, fun i hi => rfl⟩⟩) (And.intro (fun z hz => trivial) (And.intro (⟨_, _, rfl, rfl, fun i hi => rfl⟩) (And.intro (fun i hi => And.intro ⟨i, hi, rfl⟩ trivial) (And.intro (⟨_, _, rfl, fun z hz => ⟨hz, _, _, rfl, rfl, fun i hi => rfl⟩⟩) (And.intro (fun z hz => trivial) (And.intro (⟨_, _, rfl, rfl, fun i hi => rfl⟩) (And.intro (trivial) (trivial)))))))))))))
  all_goals repeat' (first|exact rfl|exact trivial|refine And.intro ?_ ?_)
 intro i hi0
 repeat (first|apply zq|apply zb|apply zk)
 apply zr
 intro _
 repeat (first|apply zq|apply zb|apply zk)
 refine AWp.cond (And.intro (fun h1 => ?_) (fun h1 => ?_))
 ·have hi : i < (blkA f b).Instrs.length := Int.ofNat_lt.1 (of_decide_eq_true h1)
  have hom := hx.o i hi
  repeat (first|apply zq|apply zb|apply zk)
  apply zr
  repeat' (first|exact trivial|refine And.intro ?_ ?_|fail)
  all_goals first|exact fun _ => nn (hi)|skip
  intro _
  refine AWp.freezeObj 12 rfl rfl ?_
  repeat (first|apply zq|apply zb|apply zk)
  apply zr
  intro _
  repeat (first|apply zq|apply zb|apply zk)
  refine AWp.loop (fun q : Nat => ⟨[(0, .obj 1001 0), (1, .i64 b), (5, .ptr (blkA f b).cells), (10, .sl 73 k), (75, roL 3 Ins.cells (blkA f b).Instrs), (76, .i64 (blkA f b).Instrs.length), (77, .i64 i), (82, roL 5 Opd.cells ((blkA f b).Instrs.getD i default).Operands), (83, .i64 ((blkA f b).Instrs.getD i default).Operands.length), (84, .i64 q)], [(1001, .cells (f.cells ++ [.sl 1002 f.Blocks.length, .sl 1004 f.Blocks.length])), (1002, stR 1003 f.Blocks.length k), (1003, stW f.Blocks.length k (A)), (1004, stR 1005 f.Blocks.length k), (1005, stW f.Blocks.length k (setK O b (rdO f b A (O b) (blkA f b).Edges.length))), (73, rowU k (usO ((blkA f b).Instrs.getD i default) (usI (blkA f b) (rdOut f b A O) i) q))]⟩) (fun q => q ≤ ((blkA f b).Instrs.getD i default).Operands.length) (fun q => ((blkA f b).Instrs.getD i default).Operands.length - q) 0 (Nat.zero_le _) ?_ ?_
  ·refine And.intro ?_ (And.intro (rfl) (And.intro ?_ (And.intro (⟨_, _, rfl, rfl, fun i hi => rfl⟩) (And.intro (fun i hi => And.intro ⟨i, hi, rfl⟩ trivial) (And.intro (⟨_, _, rfl, fun z hz => ⟨hz, _, _, rfl, rfl, fun i hi => rfl⟩⟩) (And.intro (fun z hz => trivial) (And.intro (⟨_, _, rfl, rfl, fun i hi => rfl⟩) (And.intro (fun i hi => And.intro ⟨i, hi, rfl⟩ trivial) (And.intro (⟨_, _, rfl, fun z hz => ⟨hz, _, _, rfl, rfl, fun i hi => rfl⟩⟩) (And.intro (fun z hz => trivial) (And.intro (⟨_, _, rfl, rfl, fun i hi => rfl⟩) (And.intro (trivial) (trivial)))))))))))))
   all_goals repeat' (first|exact rfl|exact trivial|refine And.intro ?_ ?_)
  intro q hq0
  repeat (first|apply zq|apply zb|apply zk)
  apply zr
  intro _
  repeat (first|apply zq|apply zb|apply zk)
  refine AWp.cond (And.intro (fun h2 => ?_) (fun h2 => ?_))
  ·have hq : q < ((blkA f b).Instrs.getD i default).Operands.length := Int.ofNat_lt.1 (of_decide_eq_true h2)
   have hn := nat_of (hv.o i q hi hq) hvl hk
   repeat (first|apply zq|apply zb|apply zk)
   apply zr
   repeat' (first|exact trivial|refine And.intro ?_ ?_|fail)
   all_goals first|exact fun _ => nn (hq)|skip
   intro _
   refine AWp.freezeObj 14 rfl rfl ?_
   repeat (first|apply zq|apply zb|apply zk)
   apply zr
   intro _
   repeat (first|apply zq|apply zb|apply zk)
   refine AWp.mono (Q := fun e t => e = .normal ∧ Sub ⟨[(0, .obj 1001 0), (1, .i64 b), (5, .ptr (blkA f b).cells), (10, .sl 73 k), (75, roL 3 Ins.cells (blkA f b).Instrs), (76, .i64 (blkA f b).Instrs.length), (77, .i64 i), (82, roL 5 Opd.cells ((blkA f b).Instrs.getD i default).Operands), (83, .i64 ((blkA f b).Instrs.getD i default).Operands.length), (84, .i64 q)], [(1001, .cells (f.cells ++ [.sl 1002 f.Blocks.length, .sl 1004 f.Blocks.length])), (1002, stR 1003 f.Blocks.length k), (1003, stW f.Blocks.length k (A)), (1004, stR 1005 f.Blocks.length k), (1005, stW f.Blocks.length k (setK O b (rdO f b A (O b) (blkA f b).Edges.length))), (73, rowU k (usO ((blkA f b).Instrs.getD i default) (usI (blkA f b) (rdOut f b A O) i) (q + 1)))]⟩ t) ?_ ?_
   ·repeat (first|apply zq|apply zb|apply zk)
    refine AWp.cond (And.intro (fun h3 => ?_) (fun h3 => ?_))
    ·have h3 : (((blkA f b).Instrs.getD i default).Operands.getD q default).Kind = 1 := by
      have h3 : ((((blkA f b).Instrs.getD i default).Operands.getD q default).Kind == 1) = true := h3
      simpa using h3
     rw [usO_yes h3]
     repeat (first|apply zq|apply zb|apply zk)
     apply zr
     repeat' (first|exact trivial|refine And.intro ?_ ?_|refine CallX.lend (m_PutR (usO ((blkA f b).Instrs.getD i default) (usI (blkA f b) (rdOut f b A O) i) q) hn.1 hn.2.1 hn.2.2) [(1001, 73)] rfl (And.intro rfl trivial) rfl ?_|fail)
     intro _
     refine And.intro rfl ?_
     refine And.intro ?_ (And.intro (rfl) (And.intro ?_ (And.intro (⟨_, _, rfl, rfl, fun i hi => rfl⟩) (And.intro (fun i hi => And.intro ⟨i, hi, rfl⟩ trivial) (And.intro (⟨_, _, rfl, fun z hz => ⟨hz, _, _, rfl, rfl, fun i hi => rfl⟩⟩) (And.intro (fun z hz => trivial) (And.intro (⟨_, _, rfl, rfl, fun i hi => rfl⟩) (And.intro (fun i hi => And.intro ⟨i, hi, rfl⟩ trivial) (And.intro (⟨_, _, rfl, fun z hz => ⟨hz, _, _, rfl, rfl, fun i hi => rfl⟩⟩) (And.intro (fun z hz => trivial) (And.intro (⟨_, _, rfl, rfl, fun i hi => rfl⟩) (And.intro (trivial) (trivial)))))))))))))
     all_goals repeat' (first|exact rfl|exact trivial|refine And.intro ?_ ?_)
    ·have h3 : ¬ (((blkA f b).Instrs.getD i default).Operands.getD q default).Kind = 1 := by
      have h3 : ((((blkA f b).Instrs.getD i default).Operands.getD q default).Kind == 1) = false := h3
      simpa using h3
     rw [usO_no h3]
     refine AWp.skip ?_
     refine And.intro rfl ?_
     refine And.intro ?_ (And.intro (rfl) (And.intro ?_ (And.intro (⟨_, _, rfl, rfl, fun i hi => rfl⟩) (And.intro (fun i hi => And.intro ⟨i, hi, rfl⟩ trivial) (And.intro (⟨_, _, rfl, fun z hz => ⟨hz, _, _, rfl, rfl, fun i hi => rfl⟩⟩) (And.intro (fun z hz => trivial) (And.intro (⟨_, _, rfl, rfl, fun i hi => rfl⟩) (And.intro (fun i hi => And.intro ⟨i, hi, rfl⟩ trivial) (And.intro (⟨_, _, rfl, fun z hz => ⟨hz, _, _, rfl, rfl, fun i hi => rfl⟩⟩) (And.intro (fun z hz => trivial) (And.intro (⟨_, _, rfl, rfl, fun i hi => rfl⟩) (And.intro (trivial) (trivial)))))))))))))
     all_goals repeat' (first|exact rfl|exact trivial|refine And.intro ?_ ?_)
   rintro _ _ ⟨rfl, hs⟩
   refine AWp.weaken hs ?_
   repeat (first|apply zq|apply zb|apply zk)
   apply zr
   intro _
   refine round_end (q + 1) hq ?_ (by omega)
   refine And.intro ?_ (And.intro (rfl) (And.intro ?_ (And.intro (⟨_, _, rfl, rfl, fun i hi => rfl⟩) (And.intro (fun i hi => And.intro ⟨i, hi, rfl⟩ trivial) (And.intro (⟨_, _, rfl, fun z hz => ⟨hz, _, _, rfl, rfl, fun i hi => rfl⟩⟩) (And.intro (fun z hz => trivial) (And.intro (⟨_, _, rfl, rfl, fun i hi => rfl⟩) (And.intro (fun i hi => And.intro ⟨i, hi, rfl⟩ trivial) (And.intro (⟨_, _, rfl, fun z hz => ⟨hz, _, _, rfl, rfl, fun i hi => rfl⟩⟩) (And.intro (fun z hz => trivial) (And.intro (⟨_, _, rfl, rfl, fun i hi => rfl⟩) (And.intro (trivial) (trivial)))))))))))))
   all_goals repeat' (first|exact rfl|exact trivial|exact congrArg (fun z => some (AV.i64 z)) (wrap_succ hq hom)|refine And.intro ?_ ?_)
  ·have hq3 : ¬ (q : Int) < ((blkA f b).Instrs.getD i default).Operands.length := of_decide_eq_false h2
   obtain rfl : q = ((blkA f b).Instrs.getD i default).Operands.length := by omega
   apply ze
   repeat (first|apply zq|apply zb|apply zk)
   apply zr
   intro _
   refine round_end (i + 1) hi ?_ (by omega)
   refine And.intro ?_ (And.intro (rfl) (And.intro ?_ (And.intro (⟨_, _, rfl, rfl, fun i hi => rfl⟩) (And.intro (fun i hi => And.intro ⟨i, hi, rfl⟩ trivial) (And.intro (⟨_, _, rfl, fun z hz => ⟨hz, _, _, rfl, rfl, fun i hi => rfl⟩⟩) (And.intro (fun z hz => trivial) (And.intro (⟨_, _, rfl, rfl, fun i hi => rfl⟩) (And.intro (fun i hi => And.intro ⟨i, hi, rfl⟩ trivial) (And.intro (⟨_, _, rfl, fun z hz => ⟨hz, _, _, rfl, rfl, fun i hi => rfl⟩⟩) (And.intro (fun z hz => trivial) (And.intro (⟨_, _, rfl, rfl, fun i hi => rfl⟩) (And.intro (trivial) (trivial)))))))))))))
   all_goals repeat' (first|exact rfl|exact trivial|exact congrArg (fun z => some (AV.i64 z)) (wrap_succ hi him)|refine And.intro ?_ ?_)
 have hi3 : ¬ (i : Int) < (blkA f b).Instrs.length := of_decide_eq_false h1
 obtain rfl : i = (blkA f b).Instrs.length := by omega
 apply ze
 repeat (first|apply zq|apply zb|apply zk)
 refine AWp.quietFirst (.q 0 (.q 1 (.q 2 (.q 3 (.q 4 (.q 6 (.q 7 (.q 8 (.q 9 (.q 10 (.q 11 (.q 14 (.c 5 false (.z 102 (.c 12 false (.q 13 .fin) .no)) .no))))))))))))) [0, 1, 2, 3, 4, 6, 7, 8, 9, 10, 11, 13, 14] [1001, 1002, 1003, 1004, 1005] mixed (by kernel_rfl) ?_
 repeat' (first|exact trivial|refine And.intro ?_ ?_|refine CallX.lend (c_made f (blkA f b) hx hvl hk hv) [(6, 102)] rfl trivial rfl ?_|refine ⟨rowU k (mdS (blkA f b)), ⟨_, _, rfl, rfl, fun i hi => rfl⟩, trivial, trivial, ?_⟩|refine CallX.pure (c_List (k := k) (n := f.Values.length) (mdS (blkA f b)) hnv (by omega)) rfl rfl rfl ?_|fail)
 intro _
 repeat (first|apply zq|apply zb|apply zk)
 refine AWp.loop (fun j : Nat => ⟨[(0, .obj 1001 0), (1, .i64 b), (5, .ptr (blkA f b).cells), (10, .sl 73 k), (109, natsL (lstS (mdS (blkA f b)) f.Values.length)), (110, .i64 (lstS (mdS (blkA f b)) f.Values.length).length), (111, .i64 j)], [(1001, .cells (f.cells ++ [.sl 1002 f.Blocks.length, .sl 1004 f.Blocks.length])), (1002, stR 1003 f.Blocks.length k), (1003, stW f.Blocks.length k (A)), (1004, stR 1005 f.Blocks.length k), (1005, stW f.Blocks.length k (setK O b (rdO f b A (O b) (blkA f b).Edges.length))), (73, rowU k (drL (lstS (mdS (blkA f b)) f.Values.length) (usI (blkA f b) (rdOut f b A O) (blkA f b).Instrs.length) j))]⟩) (fun j => j ≤ (lstS (mdS (blkA f b)) f.Values.length).length) (fun j => (lstS (mdS (blkA f b)) f.Values.length).length - j) 0 (Nat.zero_le _) ?_ ?_
 ·refine And.intro ?_ (And.intro (rfl) (And.intro ?_ (And.intro (⟨_, _, rfl, rfl, fun i hi => rfl⟩) (And.intro (fun i hi => And.intro ⟨i, hi, rfl⟩ trivial) (And.intro (⟨_, _, rfl, fun z hz => ⟨hz, _, _, rfl, rfl, fun i hi => rfl⟩⟩) (And.intro (fun z hz => trivial) (And.intro (⟨_, _, rfl, rfl, fun i hi => rfl⟩) (And.intro (fun i hi => And.intro ⟨i, hi, rfl⟩ trivial) (And.intro (⟨_, _, rfl, fun z hz => ⟨hz, _, _, rfl, rfl, fun i hi => rfl⟩⟩) (And.intro (fun z hz => trivial) (And.intro (⟨_, _, rfl, rfl, fun i hi => rfl⟩) (And.intro (trivial) (trivial)))))))))))))
  all_goals repeat' (first|exact rfl|exact trivial|refine And.intro ?_ ?_)
 intro j hj0
 repeat (first|apply zq|apply zb|apply zk)
 apply zr
 intro _
 repeat (first|apply zq|apply zb|apply zk)
 refine AWp.cond (And.intro (fun h1 => ?_) (fun h1 => ?_))
 ·have hj : j < (lstS (mdS (blkA f b)) f.Values.length).length := Int.ofNat_lt.1 (of_decide_eq_true h1)
  have hjm := lstS_lt (S := mdS (blkA f b)) (n := f.Values.length) hj
  repeat (first|apply zq|apply zb|apply zk)
  apply zr
  repeat' (first|exact trivial|refine And.intro ?_ ?_|fail)
  all_goals first|exact fun _ => nn (hj)|skip
  intro _
  repeat (first|apply zq|apply zb|apply zk)
  apply zr
  repeat' (first|exact trivial|refine And.intro ?_ ?_|refine CallX.lend (m_DropR (drL (lstS (mdS (blkA f b)) f.Values.length) (usI (blkA f b) (rdOut f b A O) (blkA f b).Instrs.length) j) rfl (hnv _ hjm) (by omega)) [(1001, 73)] rfl (And.intro rfl trivial) rfl ?_|fail)
  intro _
  repeat (first|apply zq|apply zb|apply zk)
  apply zr
  intro _
  refine round_end (j + 1) hj ?_ (by omega)
  refine And.intro ?_ (And.intro (rfl) (And.intro ?_ (And.intro (⟨_, _, rfl, rfl, fun i hi => rfl⟩) (And.intro (fun i hi => And.intro ⟨i, hi, rfl⟩ trivial) (And.intro (⟨_, _, rfl, fun z hz => ⟨hz, _, _, rfl, rfl, fun i hi => rfl⟩⟩) (And.intro (fun z hz => trivial) (And.intro (⟨_, _, rfl, rfl, fun i hi => rfl⟩) (And.intro (fun i hi => And.intro ⟨i, hi, rfl⟩ trivial) (And.intro (⟨_, _, rfl, fun z hz => ⟨hz, _, _, rfl, rfl, fun i hi => rfl⟩⟩) (And.intro (fun z hz => trivial) (And.intro (⟨_, _, rfl, rfl, fun i hi => rfl⟩) (And.intro (trivial) (trivial)))))))))))))
  all_goals repeat' (first|exact rfl|exact trivial|exact congrArg (fun z => some (AV.i64 z)) (wrap_succ hj hlm)|refine And.intro ?_ ?_)
 have hj3 : ¬ (j : Int) < (lstS (mdS (blkA f b)) f.Values.length).length := of_decide_eq_false h1
 obtain rfl : j = (lstS (mdS (blkA f b)) f.Values.length).length := by omega
 apply ze
 repeat (first|apply zq|apply zb|apply zk)
 apply zr
 repeat' (first|exact trivial|refine And.intro ?_ ?_|refine CallX.lend (m_AddR (D := inD f.Blocks.length) (ix := [b]) ⟨_, hb, rfl⟩ (fun ix => A (ix.headD 0)) (rdIn f b A O) hkk) [(1001, 1003), (1002, 73)] rfl (And.intro rfl (And.intro rfl trivial)) rfl ?_|fail)
 all_goals first|exact fun _ => nn (hb)|exact fun _ => hb|exact fun _ => ⟨_, hb, rfl⟩|skip
 intro _
 refine AWp.ret ⟨Or.inl rfl, ?_⟩
 intro _
 refine And.intro rfl (And.intro trivial (And.intro (rfl) (And.intro ?_ (And.intro (⟨_, _, rfl, rfl, fun i hi => rfl⟩) (And.intro (fun i hi => And.intro ⟨i, hi, rfl⟩ trivial) (And.intro (⟨_, _, rfl, fun z hz => ⟨hz, _, _, rfl, rfl, fun i hi => congrArg (fun q => bitC q i) (setF_K hz).symm⟩⟩) (And.intro (fun z hz => trivial) (And.intro (⟨_, _, rfl, rfl, fun i hi => rfl⟩) (And.intro (fun i hi => And.intro ⟨i, hi, rfl⟩ trivial) (And.intro (⟨_, _, rfl, fun z hz => ⟨hz, _, _, rfl, rfl, fun i hi => rfl⟩⟩) (And.intro (fun z hz => trivial) (trivial))))))))))))
 all_goals repeat' (first|exact rfl|exact trivial|refine And.intro ?_ ?_)
end Go.Proofs.Ytjjgjflbhpoloaa
/- What live's rounds come to: where values are needed. Condition: a checked function. -/
namespace Go.Proofs.Ytjjgjflbhpoloaa
open Go Go.Abs Go.RowKit Go.Abs.Gra
theorem putS_iff {S : Nat → Bool} {v w : Nat} : putS S v w = true ↔ S w = true ∨ w = v := by unfold putS; rw [Bool.or_eq_true, decide_eq_true_iff]
theorem dropS_iff {S : Nat → Bool} {v w : Nat} : dropS S v w = true ↔ S w = true ∧ w ≠ v := by unfold dropS; rw [Bool.and_eq_true, Bool.not_eq_true', decide_eq_false_iff_not]
theorem ptA_iff {az : List Int} {S : Nat → Bool} {w : Nat} : ∀ {j : Nat}, ptA az S j w = true ↔ S w = true ∨ ∃ i, i < j ∧ w = (az.getD i default).toNat
 | 0 => ⟨.inl, fun h => h.elim id fun ⟨i, hi, _⟩ => absurd hi (by omega)⟩
 | j + 1 => by
  show putS (ptA az S j) _ w = true ↔ _
  rw [putS_iff, ptA_iff (j := j)]
  constructor
  ·rintro ((h | ⟨i, hi, e⟩) | e)
   ·exact .inl h
   ·exact .inr ⟨i, by omega, e⟩
   ·exact .inr ⟨j, by omega, e⟩
  ·rintro (h | ⟨i, hi, e⟩)
   ·exact .inl (.inl h)
   ·by_cases q : i = j
    ·subst q; exact .inr e
    ·exact .inl (.inr ⟨i, by omega, e⟩)
theorem rdO_iff {f : Fun} {b : Nat} {A : Knw} {S : Nat → Bool} {w : Nat} : ∀ {q : Nat}, rdO f b A S q w = true ↔ S w = true ∨ ∃ j, j < q ∧ ((∃ i, i < (edE f b j).Args.length ∧ w = ((edE f b j).Args.getD i default).toNat) ∨ A (edT f b j) w = true)
 | 0 => ⟨.inl, fun h => h.elim id fun ⟨i, hi, _⟩ => absurd hi (by omega)⟩
 | q + 1 => by
  show (ptA (edE f b q).Args (rdO f b A S q) (edE f b q).Args.length w || A (edT f b q) w) = true ↔ _
  rw [Bool.or_eq_true, ptA_iff, rdO_iff (q := q)]
  constructor
  ·rintro (((h | ⟨j, hj, e⟩) | ⟨i, hi, e⟩) | h)
   ·exact .inl h
   ·exact .inr ⟨j, by omega, e⟩
   ·exact .inr ⟨q, by omega, .inl ⟨i, hi, e⟩⟩
   ·exact .inr ⟨q, by omega, .inr h⟩
  ·rintro (h | ⟨j, hj, h⟩)
   ·exact .inl (.inl (.inl h))
   ·by_cases e : j = q
    ·subst e
     rcases h with h | h
     ·exact .inl (.inr h)
     ·exact .inr h
    ·exact .inl (.inl (.inr ⟨j, by omega, h⟩))
theorem usO_iff {x : Ins} {S : Nat → Bool} {w : Nat} : ∀ {k : Nat}, usO x S k w = true ↔ S w = true ∨ ∃ j, j < k ∧ (x.Operands.getD j default).Kind = 1 ∧ w = (x.Operands.getD j default).Value.toNat
 | 0 => ⟨.inl, fun h => h.elim id fun ⟨i, hi, _⟩ => absurd hi (by omega)⟩
 | k + 1 => by
  by_cases hk : (x.Operands.getD k default).Kind = 1
  ·rw [usO_yes hk, putS_iff, usO_iff (k := k)]
   constructor
   ·rintro ((h | ⟨j, hj, e⟩) | e)
    ·exact .inl h
    ·exact .inr ⟨j, by omega, e⟩
    ·exact .inr ⟨k, by omega, hk, e⟩
   ·rintro (h | ⟨j, hj, e⟩)
    ·exact .inl (.inl h)
    ·by_cases q : j = k
     ·subst q; exact .inr e.2
     ·exact .inl (.inr ⟨j, by omega, e⟩)
  ·rw [usO_no hk, usO_iff (k := k)]
   constructor
   ·rintro (h | ⟨j, hj, e⟩)
    ·exact .inl h
    ·exact .inr ⟨j, by omega, e⟩
   ·rintro (h | ⟨j, hj, e⟩)
    ·exact .inl h
    ·by_cases q : j = k
     ·subst q; exact absurd e.1 hk
     ·exact .inr ⟨j, by omega, e⟩
theorem mdO_iff {x : Ins} {S : Nat → Bool} {w : Nat} : ∀ {k : Nat}, mdO x S k w = true ↔ S w = true ∨ ∃ j, j < k ∧ (x.Operands.getD j default).Kind = 2 ∧ w = (x.Operands.getD j default).Value.toNat
 | 0 => ⟨.inl, fun h => h.elim id fun ⟨i, hi, _⟩ => absurd hi (by omega)⟩
 | k + 1 => by
  by_cases hk : (x.Operands.getD k default).Kind = 2
  ·rw [mdO_yes hk, putS_iff, mdO_iff (k := k)]
   constructor
   ·rintro ((h | ⟨j, hj, e⟩) | e)
    ·exact .inl h
    ·exact .inr ⟨j, by omega, e⟩
    ·exact .inr ⟨k, by omega, hk, e⟩
   ·rintro (h | ⟨j, hj, e⟩)
    ·exact .inl (.inl h)
    ·by_cases q : j = k
     ·subst q; exact .inr e.2
     ·exact .inl (.inr ⟨j, by omega, e⟩)
  ·rw [mdO_no hk, mdO_iff (k := k)]
   constructor
   ·rintro (h | ⟨j, hj, e⟩)
    ·exact .inl h
    ·exact .inr ⟨j, by omega, e⟩
   ·rintro (h | ⟨j, hj, e⟩)
    ·exact .inl h
    ·by_cases q : j = k
     ·subst q; exact absurd e.1 hk
     ·exact .inr ⟨j, by omega, e⟩
theorem usI_iff {x : Blk} {S : Nat → Bool} {w : Nat} : ∀ {i : Nat}, usI x S i w = true ↔ S w = true ∨ ∃ a j, a < i ∧ j < (x.Instrs.getD a default).Operands.length ∧ ((x.Instrs.getD a default).Operands.getD j default).Kind = 1 ∧ w = ((x.Instrs.getD a default).Operands.getD j default).Value.toNat
 | 0 => ⟨.inl, fun h => h.elim id fun ⟨a, j, ha, _⟩ => absurd ha (by omega)⟩
 | i + 1 => by
  show usO _ (usI x S i) _ w = true ↔ _
  rw [usO_iff, usI_iff (i := i)]
  constructor
  ·rintro ((h | ⟨a, j, ha, e⟩) | ⟨j, hj, e⟩)
   ·exact .inl h
   ·exact .inr ⟨a, j, by omega, e⟩
   ·exact .inr ⟨i, j, by omega, hj, e⟩
  ·rintro (h | ⟨a, j, ha, e⟩)
   ·exact .inl (.inl h)
   ·by_cases q : a = i
    ·subst q; exact .inr ⟨j, e.1, e.2⟩
    ·exact .inl (.inr ⟨a, j, by omega, e⟩)
theorem mdI_iff {x : Blk} {S : Nat → Bool} {w : Nat} : ∀ {i : Nat}, mdI x S i w = true ↔ S w = true ∨ ∃ a j, a < i ∧ j < (x.Instrs.getD a default).Operands.length ∧ ((x.Instrs.getD a default).Operands.getD j default).Kind = 2 ∧ w = ((x.Instrs.getD a default).Operands.getD j default).Value.toNat
 | 0 => ⟨.inl, fun h => h.elim id fun ⟨a, j, ha, _⟩ => absurd ha (by omega)⟩
 | i + 1 => by
  show mdO _ (mdI x S i) _ w = true ↔ _
  rw [mdO_iff, mdI_iff (i := i)]
  constructor
  ·rintro ((h | ⟨a, j, ha, e⟩) | ⟨j, hj, e⟩)
   ·exact .inl h
   ·exact .inr ⟨a, j, by omega, e⟩
   ·exact .inr ⟨i, j, by omega, hj, e⟩
  ·rintro (h | ⟨a, j, ha, e⟩)
   ·exact .inl (.inl h)
   ·by_cases q : a = i
    ·subst q; exact .inr ⟨j, e.1, e.2⟩
    ·exact .inl (.inr ⟨a, j, by omega, e⟩)
theorem mdP_iff {ps : List Int} {w : Nat} : ∀ {i : Nat}, mdP ps i w = true ↔ ∃ j, j < i ∧ w = (ps.getD j default).toNat
 | 0 => ⟨(fun h => by cases h), fun ⟨j, hj, _⟩ => absurd hj (by omega)⟩
 | i + 1 => by
  show putS (mdP ps i) _ w = true ↔ _
  rw [putS_iff, mdP_iff (i := i)]
  constructor
  ·rintro (⟨j, hj, e⟩ | e)
   ·exact ⟨j, by omega, e⟩
   ·exact ⟨i, by omega, e⟩
  ·rintro ⟨j, hj, e⟩
   by_cases q : j = i
   ·subst q; exact .inr e
   ·exact .inl ⟨j, by omega, e⟩
theorem drL_iff {L : List Nat} {S : Nat → Bool} {w : Nat} : ∀ {j : Nat}, drL L S j w = true ↔ S w = true ∧ ∀ i, i < j → w ≠ L.getD i 0
 | 0 => ⟨fun h => ⟨h, fun i hi => absurd hi (by omega)⟩, fun h => h.1⟩
 | j + 1 => by
  show dropS (drL L S j) _ w = true ↔ _
  rw [dropS_iff, drL_iff (j := j)]
  constructor
  ·rintro ⟨⟨h, h1⟩, h2⟩
   refine ⟨h, fun i hi => ?_⟩
   by_cases q : i = j
   ·subst q; exact h2
   ·exact h1 i (by omega)
  ·rintro ⟨h, h1⟩
   exact ⟨⟨h, fun i hi => h1 i (by omega)⟩, h1 j (by omega)⟩
theorem all_notin {L : List Nat} {w : Nat} : (∀ i, i < L.length → w ≠ L.getD i 0) ↔ w ∉ L := by
 constructor
 ·intro h hm
  obtain ⟨i, hi, e⟩ := List.getElem_of_mem hm
  exact h i hi (by rw [List.getD_eq_getElem?_getD, List.getElem?_eq_getElem hi]; exact e.symm)
 ·intro h i hi e
  exact h (by rw [e, List.getD_eq_getElem?_getD, List.getElem?_eq_getElem hi]; exact List.getElem_mem hi)
theorem nat_eq {z : Int} {w : Nat} (h : 0 ≤ z) : w = z.toNat ↔ z = (w : Int) := by omega
section
variable {f : Fun} {b : Nat} {w : Nat}
theorem opsB_iff {x : Blk} {d : Int} {v : Int} {n : Nat} : anyB (opsB x d v) n = true ↔ ∃ a j, a < n ∧ j < (x.Instrs.getD a default).Operands.length ∧ ((x.Instrs.getD a default).Operands.getD j default).Kind = d ∧ ((x.Instrs.getD a default).Operands.getD j default).Value = v := by
 unfold opsB
 have key : ∀ {p : Nat → Bool} {n : Nat}, anyB p n = true ↔ ∃ j, j < n ∧ p j = true := fun {p n} => by unfold anyB; simp [List.any_eq_true]
 rw [key]
 constructor
 ·rintro ⟨a, ha, h⟩
  obtain ⟨j, hj, h⟩ := key.1 h
  unfold opB at h
  cases hk : ((x.Instrs.getD a default).Operands.getD j default).Kind == d with
  | true => rw [hk] at h; exact ⟨a, j, ha, hj, by simpa using hk, by simpa using h⟩
  | false => rw [hk] at h; cases h
 ·rintro ⟨a, j, ha, hj, h1, h2⟩
  refine ⟨a, ha, key.2 ⟨j, hj, ?_⟩⟩
  unfold opB
  rw [h1, h2]; simp
theorem argB_iff {x : Blk} {v : Int} : argB x v = true ↔ ∃ k i, k < x.Edges.length ∧ i < (x.Edges.getD k default).Args.length ∧ (x.Edges.getD k default).Args.getD i default = v := by
 unfold argB anyB
 rw [List.any_eq_true]
 constructor
 ·rintro ⟨k, hk, h⟩
  obtain ⟨i, hi, e⟩ := List.getElem_of_mem (of_decide_eq_true h)
  exact ⟨k, i, List.mem_range.1 hk, hi, by rw [List.getD_eq_getElem?_getD, List.getElem?_eq_getElem hi]; exact e⟩
 ·rintro ⟨k, i, hk, hi, e⟩
  refine ⟨k, List.mem_range.2 hk, decide_eq_true ?_⟩
  rw [← e]; exact getD_mem hi
def BhP (f : Fun) (v : Int) (b : Nat) : Prop := argB (blkA f b) v = true ∨ ∃ k, k < (blkA f b).Edges.length ∧ Nd f v (edT f b k)
theorem arg_nat (hC : Chkd f) (hb : b < f.Blocks.length) : (∃ j, j < (blkA f b).Edges.length ∧ ∃ i, i < (edE f b j).Args.length ∧ w = ((edE f b j).Args.getD i default).toNat) ↔ argB (blkA f b) (w : Int) = true := by
 rw [argB_iff]
 constructor
 ·rintro ⟨j, hj, i, hi, e⟩
  exact ⟨j, i, hj, hi, (nat_eq (idx_ok (hC.argv b j i hb hj hi)).1).1 e⟩
 ·rintro ⟨j, i, hj, hi, e⟩
  exact ⟨j, hj, i, hi, (nat_eq (idx_ok (hC.argv b j i hb hj hi)).1).2 e⟩
theorem use_nat (hC : Chkd f) (hb : b < f.Blocks.length) {d : Int} : (∃ a j, a < (blkA f b).Instrs.length ∧ j < ((blkA f b).Instrs.getD a default).Operands.length ∧ (((blkA f b).Instrs.getD a default).Operands.getD j default).Kind = d ∧ w = (((blkA f b).Instrs.getD a default).Operands.getD j default).Value.toNat) ↔ anyB (opsB (blkA f b) d (w : Int)) (blkA f b).Instrs.length = true := by
 rw [opsB_iff]
 constructor
 ·rintro ⟨a, j, ha, hj, hk, e⟩
  exact ⟨a, j, ha, hj, hk, (nat_eq (idx_ok (hC.opv b a j hb ha hj)).1).1 e⟩
 ·rintro ⟨a, j, ha, hj, hk, e⟩
  exact ⟨a, j, ha, hj, hk, (nat_eq (idx_ok (hC.opv b a j hb ha hj)).1).2 e⟩
theorem mdS_iff (hC : Chkd f) (hf : Fun.ok f) (hb : b < f.Blocks.length) : mdS (blkA f b) w = true ↔ madB (blkA f b) (w : Int) = true := by
 have hv := blkV_of hC hf hb
 unfold madB
 rw [Bool.or_eq_true, decide_eq_true_iff]
 show mdI _ _ _ _ = true ↔ _
 rw [mdI_iff, use_nat hC hb, mdP_iff]
 refine or_congr ?_ Iff.rfl
 constructor
 ·rintro ⟨j, hj, e⟩
  have e2 := (nat_eq (hv.p j hj).1).1 e
  rw [← e2, List.getD_eq_getElem?_getD, List.getElem?_eq_getElem hj]; exact List.getElem_mem hj
 ·intro h
  obtain ⟨j, hj, e⟩ := List.getElem_of_mem h
  have e1 : (blkA f b).Params.getD j default = (w : Int) := by rw [List.getD_eq_getElem?_getD, List.getElem?_eq_getElem hj]; exact e
  exact ⟨j, hj, (nat_eq (hv.p j hj).1).2 e1⟩
theorem rdOut_iff (hC : Chkd f) (hb : b < f.Blocks.length) {A O : Knw} : rdOut f b A O w = true ↔ O b w = true ∨ argB (blkA f b) (w : Int) = true ∨ ∃ k, k < (blkA f b).Edges.length ∧ A (edT f b k) w = true := by
 show rdO _ _ _ _ _ _ = true ↔ _
 rw [rdO_iff, ← arg_nat hC hb]
 refine or_congr Iff.rfl ?_
 constructor
 ·rintro ⟨j, hj, h | h⟩
  ·exact .inl ⟨j, hj, h⟩
  ·exact .inr ⟨j, hj, h⟩
 ·rintro (⟨j, hj, h⟩ | ⟨j, hj, h⟩)
  ·exact ⟨j, hj, .inl h⟩
  ·exact ⟨j, hj, .inr h⟩
theorem rdIn_iff (hC : Chkd f) (hf : Fun.ok f) (hb : b < f.Blocks.length) {A O : Knw} : rdIn f b A O w = true ↔ (rdOut f b A O w = true ∨ anyB (opsB (blkA f b) 1 (w : Int)) (blkA f b).Instrs.length = true) ∧ ¬ (w < f.Values.length ∧ madB (blkA f b) (w : Int) = true) := by
 show drL _ _ _ _ = true ↔ _
 rw [drL_iff, all_notin, usI_iff, use_nat hC hb]
 refine and_congr Iff.rfl (not_congr ?_)
 unfold lstS
 rw [List.mem_filter, List.mem_range, mdS_iff hC hf hb]
structure OkS (f : Fun) (A O : Knw) : Prop where
 a : ∀ b w, b < f.Blocks.length → A b w = true → Nd f (w : Int) b ∧ w < f.Values.length
 o : ∀ b w, b < f.Blocks.length → O b w = true → BhP f (w : Int) b ∧ w < f.Values.length
theorem argV_lt (hC : Chkd f) (hb : b < f.Blocks.length) (h : argB (blkA f b) (w : Int) = true) : w < f.Values.length := by
 obtain ⟨k, i, hk, hi, e⟩ := argB_iff.1 h
 have h1 := idx_ok (hC.argv b k i hb hk hi)
 have e : ((f.Blocks.getD b default).Edges.getD k default).Args.getD i default = (w : Int) := e
 rw [e] at h1; omega
theorem ops_lt (hC : Chkd f) (hb : b < f.Blocks.length) {d : Int} (h : anyB (opsB (blkA f b) d (w : Int)) (blkA f b).Instrs.length = true) : w < f.Values.length := by
 obtain ⟨a, j, ha, hj, _, e⟩ := opsB_iff.1 h
 have h1 := idx_ok (hC.opv b a j hb ha hj)
 have e : (((f.Blocks.getD b default).Instrs.getD a default).Operands.getD j default).Value = (w : Int) := e
 rw [e] at h1; omega
theorem OkS.out (hC : Chkd f) {A O : Knw} (h : OkS f A O) (hb : b < f.Blocks.length) (hw : rdOut f b A O w = true) : BhP f (w : Int) b ∧ w < f.Values.length := by
 rcases (rdOut_iff hC hb).1 hw with q | q | ⟨k, hk, q⟩
 ·exact h.o b w hb q
 ·exact ⟨.inl q, argV_lt hC hb q⟩
 ·obtain ⟨h1, h2⟩ := h.a _ w (edT_lt hC hb hk).2 q
  exact ⟨.inr ⟨k, hk, h1⟩, h2⟩
theorem OkS.in_ (hC : Chkd f) (hf : Fun.ok f) {A O : Knw} (h : OkS f A O) (hb : b < f.Blocks.length) (hw : rdIn f b A O w = true) : Nd f (w : Int) b ∧ w < f.Values.length := by
 obtain ⟨h1, h2⟩ := (rdIn_iff hC hf hb).1 hw
 have hlt : w < f.Values.length := h1.elim (fun q => (h.out hC hb q).2) fun q => ops_lt hC hb q
 have hm : madB (blkA f b) (w : Int) = false := by
  cases hq : madB (blkA f b) (w : Int) with
  | false => rfl
  | true => exact absurd ⟨hlt, hq⟩ h2
 refine ⟨?_, hlt⟩
 rcases h1 with q | q
 ·rcases (h.out hC hb q).1 with g | ⟨k, hk, g⟩
  ·exact .use hb hm (by unfold useB; rw [g, Bool.or_true])
  ·exact .edge hb hm hk g
 ·exact .use hb hm (by unfold useB; rw [q, Bool.true_or])
def rnA (f : Fun) (b : Nat) (A O : Knw) : Knw := setK A b (fun v => A b v || rdIn f b A O v)
def rnO (f : Fun) (b : Nat) (A O : Knw) : Knw := setK O b (rdOut f b A O)
theorem OkS.step (hC : Chkd f) (hf : Fun.ok f) {A O : Knw} (h : OkS f A O) (hb : b < f.Blocks.length) : OkS f (rnA f b A O) (rnO f b A O) := by
 refine ⟨fun c w hc hw => ?_, fun c w hc hw => ?_⟩
 ·unfold rnA setK at hw
  split at hw
  ·rename_i e; subst e
   rw [Bool.or_eq_true] at hw
   exact hw.elim (h.a c w hc) (h.in_ hC hf hc)
  ·exact h.a c w hc hw
 ·unfold rnO setK at hw
  split at hw
  ·rename_i e; subst e
   exact h.out hC hc hw
  ·exact h.o c w hc hw
def psS (f : Fun) (z : Nat → Nat) (m k : Nat) (A O : Knw) : Nat → Knw × Knw × Bool
 | 0 => (A, O, false)
 | j + 1 => let s := psS f z m k A O j
  (rnA f (z (m - 1 - j)) s.1 s.2.1, rnO f (z (m - 1 - j)) s.1 s.2.1, s.2.2 || grw (s.1 (z (m - 1 - j))) (rdIn f (z (m - 1 - j)) s.1 s.2.1) k)
def cntS (A : Knw) : Nat := cnB (fun x => A (x / 160) (x % 160)) 2560
theorem ps_ok (hC : Chkd f) (hf : Fun.ok f) {z : Nat → Nat} {m k : Nat} {A O : Knw} (hz : ∀ i, i < m → z i < f.Blocks.length) (h : OkS f A O) : ∀ j, j ≤ m → OkS f (psS f z m k A O j).1 (psS f z m k A O j).2.1
 | 0, _ => h
 | j + 1, hj => (ps_ok hC hf hz h j (by omega)).step hC hf (hz _ (by omega))
theorem rnA_ge {A O : Knw} {c : Nat} (h : A c w = true) : rnA f b A O c w = true := by
 unfold rnA setK
 split
 ·rename_i e; subst e; show (A c w || _) = true; rw [h, Bool.true_or]
 ·exact h
theorem rnO_ge (hC : Chkd f) (hb : b < f.Blocks.length) {A O : Knw} {c : Nat} (h : O c w = true) : rnO f b A O c w = true := by
 unfold rnO setK
 split
 ·rename_i e; subst e; exact (rdOut_iff hC hb).2 (.inl h)
 ·exact h
theorem rnA_same (hC : Chkd f) (hf : Fun.ok f) {A O : Knw} (h : OkS f A O) (hb : b < f.Blocks.length) {k : Nat} (hk : k = nW f.Values.length) (hg : grw (A b) (rdIn f b A O) k = false) : rnA f b A O = A ∧ ∀ w, rdIn f b A O w = true → A b w = true := by
 have hin : ∀ w, rdIn f b A O w = true → A b w = true := fun w hw => by
  cases hq : A b w with
  | true => rfl
  | false =>
   have hlt := (h.in_ hC hf hb hw).2
   have : grw (A b) (rdIn f b A O) k = true := grw_iff.2 ⟨w, by subst hk; show _ < (f.Values.length + 63) / 64; omega, hw, hq⟩
   rw [this] at hg; cases hg
 refine ⟨?_, hin⟩
 funext c w
 unfold rnA setK
 split
 ·rename_i e; subst e
  show (A c w || rdIn f c A O w) = A c w
  cases hq : A c w with
  | true => rfl
  | false =>
   cases hr : rdIn f c A O w with
   | false => rfl
   | true => rw [hin w hr] at hq; cases hq
 ·rfl
theorem ps_le {z : Nat → Nat} {m k : Nat} {A O : Knw} : ∀ {i j : Nat}, i ≤ j → ∀ {c w}, (psS f z m k A O i).1 c w = true → (psS f z m k A O j).1 c w = true
 | i, 0, h, c, w, hw => by have : i = 0 := by omega
                           subst this; exact hw
 | i, j + 1, h, c, w, hw => by
  by_cases e : i = j + 1
  ·subst e; exact hw
  ·exact rnA_ge (ps_le (i := i) (j := j) (by omega) hw)
theorem ps_leO (hC : Chkd f) {z : Nat → Nat} {m k : Nat} {A O : Knw} (hz : ∀ i, i < m → z i < f.Blocks.length) : ∀ {i j : Nat}, i ≤ j → j ≤ m → ∀ {c w}, (psS f z m k A O i).2.1 c w = true → (psS f z m k A O j).2.1 c w = true
 | i, 0, h, _, c, w, hw => by have : i = 0 := by omega
                              subst this; exact hw
 | i, j + 1, h, hj, c, w, hw => by
  by_cases e : i = j + 1
  ·subst e; exact hw
  ·exact rnO_ge hC (hz _ (by omega)) (ps_leO hC hz (i := i) (j := j) (by omega) (by omega) hw)
theorem ps_no {z : Nat → Nat} {m k : Nat} {A O : Knw} : ∀ {i j : Nat}, i ≤ j → (psS f z m k A O j).2.2 = false → (psS f z m k A O i).2.2 = false
 | i, 0, h, hg => by have : i = 0 := by omega
                     subst this; rfl
 | i, j + 1, h, hg => by
  by_cases e : i = j + 1
  ·subst e; exact hg
  ·have hg : ((psS f z m k A O j).2.2 || _) = false := hg
   rw [Bool.or_eq_false_iff] at hg
   exact ps_no (j := j) (by omega) hg.1
theorem ps_same (hC : Chkd f) (hf : Fun.ok f) {z : Nat → Nat} {m k : Nat} {A O : Knw} (hz : ∀ i, i < m → z i < f.Blocks.length) (h : OkS f A O) (hk : k = nW f.Values.length) : ∀ {j : Nat}, j ≤ m → (psS f z m k A O j).2.2 = false → (psS f z m k A O j).1 = A
 | 0, _, _ => rfl
 | j + 1, hj, hg => by
  have hg2 : ((psS f z m k A O j).2.2 || _) = false := hg
  rw [Bool.or_eq_false_iff] at hg2
  have ih := ps_same hC hf hz h hk (j := j) (by omega) hg2.1
  have := (rnA_same hC hf (ps_ok hC hf hz h j (by omega)) (hz _ (by omega)) hk hg2.2).1
  exact this.trans ih
theorem ps_done (hC : Chkd f) (hf : Fun.ok f) {z : Nat → Nat} {m k : Nat} {A O : Knw} (hz : ∀ i, i < m → z i < f.Blocks.length) (hall : ∀ b, b < f.Blocks.length → ∃ i, i < m ∧ z i = b) (h : OkS f A O) (hk : k = nW f.Values.length) (hg : (psS f z m k A O m).2.2 = false) :
  ∀ b, b < f.Blocks.length → ∀ w, w < f.Values.length → ((psS f z m k A O m).1 b w = nedB f (w : Int) b ∧ ((psS f z m k A O m).2.1 b w = true ↔ BhP f (w : Int) b)) := by
 have hA : ∀ j, j ≤ m → (psS f z m k A O j).1 = A := fun j hj => ps_same hC hf hz h hk hj (ps_no hj hg)
 have hcl : ∀ b, b < f.Blocks.length → ∃ O', OkS f A O' ∧ (∀ w, rdIn f b A O' w = true → A b w = true) ∧ ∀ w, rdOut f b A O' w = true → (psS f z m k A O m).2.1 b w = true := fun b hb => by
  obtain ⟨i, hi, rfl⟩ := hall b hb
  have e : m - 1 - (m - 1 - i) = i := by omega
  have hj1 := hA (m - 1 - i) (by omega)
  have hok := ps_ok hC hf hz h (k := k) (m - 1 - i) (by omega)
  rw [hj1] at hok
  have hg1 := ps_no (i := m - 1 - i + 1) (by omega) hg
  have hg1 : ((psS f z m k A O (m - 1 - i)).2.2 || grw ((psS f z m k A O (m - 1 - i)).1 (z (m - 1 - (m - 1 - i)))) (rdIn f (z (m - 1 - (m - 1 - i))) (psS f z m k A O (m - 1 - i)).1 (psS f z m k A O (m - 1 - i)).2.1) k) = false := hg1
  rw [Bool.or_eq_false_iff, e, hj1] at hg1
  refine ⟨_, hok, (rnA_same hC hf hok hb hk hg1.2).2, fun w hw => ps_leO hC hz (i := m - 1 - i + 1) (by omega) (Nat.le_refl _) ?_⟩
  show rnO f (z (m - 1 - (m - 1 - i))) (psS f z m k A O (m - 1 - i)).1 (psS f z m k A O (m - 1 - i)).2.1 (z i) w = true
  rw [e, hj1]
  unfold rnO setK
  rw [if_pos rfl]; exact hw
 have hN : ∀ (w : Nat), w < f.Values.length → ∀ b, Nd f (w : Int) b → A b w = true := fun w hw b hn => by
  induction hn with
  | use hb hm hu =>
   obtain ⟨O', h1, h2, h3⟩ := hcl _ hb
   refine h2 w ((rdIn_iff hC hf hb).2 ⟨?_, fun q => by rw [hm] at q; cases q.2⟩)
   unfold useB at hu
   rw [Bool.or_eq_true] at hu
   exact hu.elim .inr fun q => .inl ((rdOut_iff hC hb).2 (.inr (.inl q)))
  | edge hb hm hk hn ih =>
   obtain ⟨O', h1, h2, h3⟩ := hcl _ hb
   exact h2 w ((rdIn_iff hC hf hb).2 ⟨.inl ((rdOut_iff hC hb).2 (.inr (.inr ⟨_, hk, ih⟩))), fun q => by rw [hm] at q; cases q.2⟩)
 have hfin := ps_ok hC hf hz h (k := k) m (Nat.le_refl _)
 intro b hb w hw
 refine ⟨?_, fun q => (hfin.o b w hb q).1, fun q => ?_⟩
 ·rw [hA m (Nat.le_refl _), Bool.eq_iff_iff, nedB_iff]
  exact ⟨fun q => (h.a b w hb q).1, hN w hw b⟩
 ·obtain ⟨O', h1, h2, h3⟩ := hcl b hb
  refine h3 w ((rdOut_iff hC hb).2 ?_)
  rcases q with q | ⟨k, hk, q⟩
  ·exact .inr (.inl q)
  ·exact .inr (.inr ⟨k, hk, hN w hw _ q⟩)
theorem cntS_le {A B : Knw} (h : ∀ b w, A b w = true → B b w = true) : cntS A ≤ cntS B := cnB_le fun i _ hi => h _ _ hi
theorem cntS_max {A : Knw} : cntS A ≤ 2560 := cnB_max
theorem ps_more (hC : Chkd f) (hf : Fun.ok f) {z : Nat → Nat} {m k : Nat} {A O : Knw} (hz : ∀ i, i < m → z i < f.Blocks.length) (h : OkS f A O) : ∀ {j : Nat}, j ≤ m → (psS f z m k A O j).2.2 = true → cntS A < cntS (psS f z m k A O j).1
 | 0, _, hg => by cases hg
 | j + 1, hj, hg => by
  have hle : cntS (psS f z m k A O j).1 ≤ cntS (psS f z m k A O (j + 1)).1 := cntS_le fun b w q => rnA_ge q
  have hg : ((psS f z m k A O j).2.2 || grw _ _ k) = true := hg
  rw [Bool.or_eq_true] at hg
  rcases hg with hg | hg
  ·exact Nat.lt_of_lt_of_le (ps_more hC hf hz h (by omega) hg) hle
  ·have h0 : cntS A ≤ cntS (psS f z m k A O j).1 := cntS_le fun b w q => ps_le (i := 0) (Nat.zero_le _) q
   obtain ⟨w, hw, h1, h2⟩ := grw_iff.1 hg
   have hok := ps_ok hC hf hz h (k := k) j (by omega)
   have hb := hz (m - 1 - j) (by omega)
   have hlt := (hok.in_ hC hf hb h1).2
   have hv := hC.e.siz.values
   have hbl := hC.e.siz.blocks.2
   refine Nat.lt_of_le_of_lt h0 (cnB_lt (fun i _ hi => rnA_ge hi) ⟨160 * z (m - 1 - j) + w, by omega, ?_, ?_⟩)
   ·rw [show (160 * z (m - 1 - j) + w) / 160 = z (m - 1 - j) by omega, show (160 * z (m - 1 - j) + w) % 160 = w by omega]; exact h2
   ·rw [show (160 * z (m - 1 - j) + w) / 160 = z (m - 1 - j) by omega, show (160 * z (m - 1 - j) + w) % 160 = w by omega]
    show rnA _ _ _ _ _ _ = true
    unfold rnA setK
    rw [if_pos rfl, h1, Bool.or_true]
end
end Go.Proofs.Ytjjgjflbhpoloaa
/- Contract of live.compute. Condition: a checked function and a row of all its blocks. -/
namespace Go.Proofs.Ytjjgjflbhpoloaa
open Go Go.Abs Go.RowKit Go.Abs.Gra
noncomputable def nedA (f : Fun) : Knw := fun b w => decide (w < f.Values.length) && nedB f (w : Int) b
noncomputable def behB (f : Fun) (v : Int) (b : Nat) : Bool := anyB (fun k => nedB f v (edT f b k)) (blkA f b).Edges.length || argB (blkA f b) v
noncomputable def behA (f : Fun) : Knw := fun b w => decide (w < f.Values.length) && behB f (w : Int) b
@[reducible] def ndO (f : Fun) (n k : Nat) (A O : Knw) : List (Nat × HO) := [(11, .cells (f.cells ++ [.sl 60 n, .sl 61 n])), (60, stR 62 n k), (62, stW n k A), (61, stR 63 n k), (63, stW n k O)]
theorem behB_iff {f : Fun} {v : Int} {b : Nat} : behB f v b = true ↔ BhP f v b := by
 unfold behB BhP
 rw [Bool.or_eq_true, or_comm]
 refine or_congr Iff.rfl ?_
 unfold anyB
 rw [List.any_eq_true]
 constructor
 ·rintro ⟨k, hk, h⟩; exact ⟨k, List.mem_range.1 hk, nedB_iff.1 h⟩
 ·rintro ⟨k, hk, h⟩; exact ⟨k, List.mem_range.2 hk, nedB_iff.2 h⟩
@[reducible] def row0 : HO := .row 91 1 0 (fun _ => [])
def nwR (F T i k : Nat) (j : Nat) : List AV := if j < i then [.sl ⟨F, [j]⟩ k] else [.sl ⟨T, []⟩ k]
theorem nwR_of {F T i k j : Nat} {r : List AV} (hj : j < i + 1) (h1 : j < i → [.sl ⟨F, [j]⟩ k] = r) (h2 : ¬ j < i → j - i = 0 → [.sl ⟨T, []⟩ k] = r) : nwR F T i k j = r := by
 unfold nwR
 by_cases e : j < i
 ·rw [if_pos e]; exact h1 e
 ·rw [if_neg e]; exact h2 e (by omega)
theorem nwR_put {F T i k j : Nat} (hj : j < i + 1) : nwR F T i k j = AV.rnL (putρ F i T) [.sl ⟨F, [j]⟩ k] := by
 refine nwR_of hj (fun e => ?_) fun e e2 => ?_
 ·simp only [AV.rnL, AV.rn, putρ_ne (show j ≠ i by omega)]
 ·obtain rfl : j = i := by omega
  simp only [AV.rnL, AV.rn, putρ_at]
theorem nwR_rn {F T i k j : Nat} {ρ : Nm → Option Nm} (h1 : ρ ⟨F, [j]⟩ = some ⟨F, [j]⟩) (h2 : ρ ⟨T, []⟩ = some ⟨T, []⟩) : nwR F T i k j = AV.rnL ρ (nwR F T i k j) := by
 unfold nwR
 split <;> simp only [AV.rnL, AV.rn, h1, h2]
theorem stW_put {F T i k : Nat} {S : Nat → Bool} {h : List (Nat × HO)} {p : Nm → Prop} (h1 : Abs.look h F = some (stW i k (fun _ => S))) (h2 : Abs.look h T = some (rowU k S)) : ∀ ix, inD (i + 1) ix → viaO (putρ F i T) h ⟨F, ix⟩ (rowU k S) ∧ HO.refsP p (rowU k S) := by
 rintro ix ⟨j, hj, rfl⟩
 refine ⟨?_, trivial⟩
 unfold viaO
 by_cases e : j = i
 ·subst e
  rw [putρ_at]
  exact ⟨_, ⟨_, h2, rfl, trivial⟩, Or.inl ⟨_, rfl, fun i hi => rfl⟩⟩
 ·rw [putρ_ne e]
  exact ⟨_, ⟨_, h1, rfl, ⟨j, by omega, rfl⟩⟩, Or.inl ⟨_, rfl, fun i hi => rfl⟩⟩
theorem nwR_refs {F T i k j : Nat} {p : Nm → Prop} (h1 : j < i → p ⟨F, [j]⟩) (h2 : p ⟨T, []⟩) : AV.refsPL p (nwR F T i k j) := by
 unfold nwR
 by_cases e : j < i
 ·rw [if_pos e]; exact And.intro (h1 e) trivial
 ·rw [if_neg e]; exact And.intro h2 trivial
theorem nedA_of {f : Fun} {A O : Knw} {b : Nat} (h : OkS f A O) (hb : b < f.Blocks.length) (hd : ∀ w, w < f.Values.length → (A b w = nedB f (w : Int) b ∧ (O b w = true ↔ BhP f (w : Int) b))) : A b = nedA f b ∧ O b = behA f b := by
 constructor
 ·funext w
  unfold nedA
  by_cases hw : w < f.Values.length
  ·rw [decide_eq_true hw, Bool.true_and]; exact (hd w hw).1
  ·rw [decide_eq_false hw, Bool.false_and]
   cases hq : A b w with
   | false => rfl
   | true => exact absurd (h.a b w hb hq).2 hw
 ·funext w
  unfold behA
  by_cases hw : w < f.Values.length
  ·rw [decide_eq_true hw, Bool.true_and, Bool.eq_iff_iff, behB_iff]; exact (hd w hw).2
  ·rw [decide_eq_false hw, Bool.false_and]
   cases hq : O b w with
   | false => rfl
   | true => exact absurd (h.o b w hb hq).2 hw
def sameDom : List (Nat × HO) → List (Nat × HO) → Prop
 | [], [] => True
 | (k, o) :: r, (k', o') :: r' => k = k' ∧ (match o, o' with
  | .fam D _, .fam D' _ => ∀ ix, D ix → D' ix
  | .fam _ _, _ => False
  | _, .fam _ _ => False
  | _, _ => True) ∧ sameDom r r'
 | _, _ => False
theorem domP_same : ∀ {h h' : List (Nat × HO)}, sameDom h h' → ∀ nm, domP h nm → domP h' nm
 | [], [], _, nm, h => h
 | (k, o) :: r, (k', o') :: r', hs, nm, h => by
  obtain ⟨rfl, ho, hr⟩ := hs
  unfold domP at h ⊢
  rw [look_cons] at h ⊢
  by_cases e : nm.id = k
  ·rw [if_pos e] at h ⊢
   cases o <;> cases o' <;> first|exact h|exact ho.elim|exact ho _ h
  ·rw [if_neg e] at h ⊢
   exact domP_same hr nm h
 | [], _ :: _, hs, _, _ => hs.elim
 | _ :: _, [], hs, _, _ => hs.elim
@[reducible] def ordZ (ord : List Nat) (i : Nat) : Nat := ord.getD i 0
@[reducible] def rnJ (f : Fun) (ord : List Nat) (k : Nat) (A O : Knw) (j : Nat) : List (Nat × HO) :=
 ndH f f.Blocks.length k (psS f (ordZ ord) ord.length k A O j).1 (psS f (ordZ ord) ord.length k A O j).2.1 ++ [(1006, .cells [.obj 1001 0]), (1007, .cells [.bool (psS f (ordZ ord) ord.length k A O j).2.2])]
@[reducible] def rnσ : List (Nat × Nat) := [(1001, 11), (1002, 60), (1003, 62), (1004, 61), (1005, 63), (1006, 5), (1007, 6)]
@[reducible] def rnσ1 : List (Nat × Nat) := [(1001, 1001), (1002, 1002), (1003, 1003), (1004, 1004), (1005, 1005)]
set_option maxRecDepth 20000 in
set_option maxHeartbeats 8000000 in
theorem m_compute (f : Fun) (hC : Chkd f) (hf : Fun.ok f) {k : Nat} (hk : k = nW f.Values.length) (ord : List Nat) (hlt : ∀ i, i < ord.length → ord.getD i 0 < f.Blocks.length) (hall : ∀ b, b < f.Blocks.length → ∃ i, i < ord.length ∧ ord.getD i 0 = b) :
  ACallM B.P 40 ⟨[f.av, natsL ord], [], .obj 11 0, ndO f f.Blocks.length k (nedA f) (behA f)⟩ := by
 have hz5 := hC.e.siz
 have hvl := hz5.values
 have hbl := hz5.blocks
 have hbm : f.Blocks.length ≤ maxLen := by unfold maxLen; omega
 have hfr := c_fresh f.Values.length (by omega)
 rw [← hk] at hfr
 refine ACallM.enterR B _ _ Try.func40 rfl rfl Try.ntmps40 Try.results40 rfl ?_ fun hreal => ?_
 ·refine And.intro trivial (And.intro ?_ trivial)
  repeat' (first|exact rfl|exact trivial|refine And.intro ?_ ?_)
 clear hreal
 refine AWpM.seq ?_
 refine AWpM.of ?_
 repeat (first|apply zq|apply zb|apply zk)
 apply zr
 intro _
 refine AWpM.seq ?_
 refine AWpM.of ?_
 refine AWp.freezeObj 2 rfl rfl ?_
 repeat (first|apply zq|apply zb|apply zk)
 apply zr
 intro _
 refine AWpM.seq ?_
 refine AWpM.of ?_
 refine AWp.via (newρ 60) ⟨[(1, natsL ord), (2, .ptr f.cells), (5, .obj 5 0)], [(5, .cells [.obj 11 0]), (11, .cells (f.cells ++ [.sl 60 0, .val (.slice none 0 0)])), (60, row0)]⟩ ?_ ?_
 ·refine ⟨?_, ?_, newρ_inj 60 _, newρ_old (by decide) _⟩
  ·repeat' (first|exact rfl|exact trivial|refine And.intro ?_ ?_)
  ·refine And.intro (And.intro ⟨_, ⟨_, rfl, rfl, trivial⟩, rfl⟩ ?_) (And.intro (And.intro ⟨_, ⟨_, rfl, rfl, trivial⟩, rfl⟩ ?_) (And.intro (And.intro ⟨_, _, _, rfl⟩ trivial) trivial))
   all_goals repeat' (first|exact rfl|exact trivial|refine And.intro ?_ ?_)
 refine AWp.via (newρ 61) ⟨[(1, natsL ord), (2, .ptr f.cells), (5, .obj 5 0)], [(5, .cells [.obj 11 0]), (11, .cells (f.cells ++ [.sl 60 0, .sl 61 0])), (60, row0), (61, row0)]⟩ ?_ ?_
 ·refine ⟨?_, ?_, newρ_inj 61 _, newρ_old (by decide) _⟩
  ·repeat' (first|exact rfl|exact trivial|refine And.intro ?_ ?_)
  ·refine And.intro (And.intro ⟨_, ⟨_, rfl, rfl, trivial⟩, rfl⟩ ?_) (And.intro (And.intro ⟨_, ⟨_, rfl, rfl, trivial⟩, rfl⟩ ?_) (And.intro (And.intro ⟨_, ⟨_, rfl, rfl, trivial⟩, Or.inl ⟨_, rfl, fun i hi => absurd hi (Nat.not_lt_zero _)⟩⟩ trivial) (And.intro (And.intro ⟨_, _, _, rfl⟩ trivial) trivial)))
   all_goals repeat' (first|exact rfl|exact trivial|refine And.intro ?_ ?_)
 refine AWp.via some ⟨[(1, natsL ord), (2, .ptr f.cells), (5, .obj 5 0)], [(5, .cells [.obj 11 0]), (11, .cells (f.cells ++ [.sl 60 0, .sl 61 0])), (60, stR 62 0 k), (62, stW 0 k (fun _ => nonS)), (61, stR 63 0 k), (63, stW 0 k (fun _ => nonS))]⟩ ?_ ?_
 ·refine ⟨?_, ?_, fun a b c _ _ ha hb => Option.some.inj (ha.trans hb.symm), fun a _ _ => rfl⟩
  ·repeat' (first|exact rfl|exact trivial|refine And.intro ?_ ?_)
  ·refine And.intro (And.intro ⟨_, ⟨_, rfl, rfl, trivial⟩, rfl⟩ ?_) (And.intro (And.intro ⟨_, ⟨_, rfl, rfl, trivial⟩, rfl⟩ ?_) (And.intro (And.intro ⟨_, ⟨_, rfl, rfl, trivial⟩, Or.inr ⟨_, rfl, fun i hi => absurd hi (Nat.not_lt_zero _)⟩⟩ (fun i hi => absurd hi (Nat.not_lt_zero _))) (And.intro (fun ix hD => absurd hD fun ⟨i, hi, _⟩ => absurd hi (Nat.not_lt_zero _)) (And.intro (And.intro ⟨_, ⟨_, rfl, rfl, trivial⟩, Or.inr ⟨_, rfl, fun i hi => absurd hi (Nat.not_lt_zero _)⟩⟩ (fun i hi => absurd hi (Nat.not_lt_zero _))) (And.intro (fun ix hD => absurd hD fun ⟨i, hi, _⟩ => absurd hi (Nat.not_lt_zero _)) trivial)))))
   all_goals repeat' (first|exact rfl|exact trivial|refine And.intro ?_ ?_)
 repeat (first|apply zq|apply zb|apply zk)
 apply zr
 intro _
 repeat (first|apply zq|apply zb|apply zk)
 refine AWp.loop (fun i : Nat => ⟨[(1, natsL ord), (2, .ptr f.cells), (5, .obj 5 0), (14, .i64 f.Blocks.length), (15, .i64 i)], [(5, .cells [.obj 11 0]), (11, .cells (f.cells ++ [.sl 60 i, .sl 61 i])), (60, stR 62 i k), (62, stW i k ((fun _ => nonS))), (61, stR 63 i k), (63, stW i k ((fun _ => nonS)))]⟩) (fun i => i ≤ f.Blocks.length) (fun i => f.Blocks.length - i) 0 (Nat.zero_le _) ?_ ?_
 ·refine And.intro ?_ (And.intro (rfl) (And.intro ?_ (And.intro (rfl) (And.intro ?_ (And.intro (⟨_, _, rfl, rfl, fun i hi => rfl⟩) (And.intro (fun i hi => And.intro ⟨i, hi, rfl⟩ trivial) (And.intro (⟨_, _, rfl, fun z hz => ⟨hz, _, _, rfl, rfl, fun i hi => rfl⟩⟩) (And.intro (fun z hz => trivial) (And.intro (⟨_, _, rfl, rfl, fun i hi => rfl⟩) (And.intro (fun i hi => And.intro ⟨i, hi, rfl⟩ trivial) (And.intro (⟨_, _, rfl, fun z hz => ⟨hz, _, _, rfl, rfl, fun i hi => rfl⟩⟩) (And.intro (fun z hz => trivial) (trivial)))))))))))))
  all_goals repeat' (first|exact rfl|exact trivial|refine And.intro ?_ ?_)
 intro i hi0
 repeat (first|apply zq|apply zb|apply zk)
 apply zr
 intro _
 repeat (first|apply zq|apply zb|apply zk)
 refine AWp.cond (And.intro (fun h1 => ?_) (fun h1 => ?_))
 ·have hi : i < f.Blocks.length := Int.ofNat_lt.1 (of_decide_eq_true h1)
  repeat (first|apply zq|apply zb|apply zk)
  refine AWp.mono (Q := fun e t => e = .normal ∧ Sub ⟨[(1, natsL ord), (2, .ptr f.cells), (5, .obj 5 0), (14, .i64 f.Blocks.length), (15, .i64 i)], [(5, .cells [.obj 11 0]), (11, .cells (f.cells ++ [.sl 28 (i + 1), .sl 38 (i + 1)])), (28, .rows 91 1 (i + 1) (nwR 62 26 i k)), (38, .rows 91 1 (i + 1) (nwR 63 36 i k)), (26, rowU k nonS), (36, rowU k nonS), (62, stW i k (fun _ => nonS)), (63, stW i k (fun _ => nonS))]⟩ t) ?_ ?_
  ·refine AWp.quietU (.q 0 [5] (.q 1 [5] (.q 2 [5] (.q 3 [11] (.q 4 [11] (.q 5 [11] (.q 6 [] (.q 7 [] (.q 8 [] (.q 12 [5] (.q 13 [11] (.q 14 [11] (.q 15 [11] (.q 16 [] (.q 17 [] (.q 18 [] (.k 9 [5, 11] (.k 10 [5, 11] (.k 11 [5, 11] (.k 19 [5, 11] (.k 20 [5, 11] (.k 21 [5] (.q 22 [11] (.q 23 [11] (.k 24 [5] (.q 25 [11] (.q 26 [11] (.k 27 [] .fin .no))) .no))) .no) .no) .no) .no) .no) .no))))))))))))))))) [(0, [5]), (1, [5]), (2, [5]), (3, [11]), (4, [11]), (5, [11]), (6, []), (7, []), (8, []), (12, [5]), (13, [11]), (14, [11]), (15, [11]), (16, []), (17, []), (18, []), (22, [11]), (23, [11]), (25, [11]), (26, [11])] mixed (by kernel_rfl) ?_
   repeat' (first|exact trivial|refine And.intro ?_ ?_|refine CallX.lend hfr [(6, 26)] rfl trivial rfl ?_|refine CallX.lend hfr [(6, 36)] rfl trivial rfl ?_|fail)
   all_goals first|exact Nat.le_refl _|exact rfl|exact fun _ _ => rfl|(intro j hj; obtain rfl : j = 0 := (by omega); exact rfl)|(intro _ j hj; obtain rfl : j = 0 := (by omega); exact rfl)|omega|skip
   intro _
   refine And.intro rfl ?_
   refine And.intro ?_ (And.intro (rfl) (And.intro ?_ (And.intro (rfl) (And.intro ?_ (And.intro (⟨_, _, rfl, rfl, fun i hi => nwR_of hi (fun e => by simp only [if_pos e]; rfl) (fun e e2 => by simp only [if_neg e, e2]; rfl)⟩) (And.intro (fun j hj => nwR_refs (fun q => ⟨j, q, rfl⟩) rfl) (And.intro (⟨_, _, rfl, rfl, fun i hi => nwR_of hi (fun e => by simp only [if_pos e]; rfl) (fun e e2 => by simp only [if_neg e, e2]; rfl)⟩) (And.intro (fun j hj => nwR_refs (fun q => ⟨j, q, rfl⟩) rfl) (And.intro (⟨_, _, rfl, rfl, fun i hi => rfl⟩) (And.intro (trivial) (And.intro (⟨_, _, rfl, rfl, fun i hi => rfl⟩) (And.intro (trivial) (And.intro (⟨_, _, rfl, fun z hz => ⟨hz, _, _, rfl, rfl, fun i hi => rfl⟩⟩) (And.intro (fun z hz => trivial) (And.intro (⟨_, _, rfl, fun z hz => ⟨hz, _, _, rfl, rfl, fun i hi => rfl⟩⟩) (And.intro (fun z hz => trivial) (trivial)))))))))))))))))
   all_goals repeat' (first|exact rfl|exact trivial|refine And.intro ?_ ?_)
  rintro _ _ ⟨rfl, hs⟩
  refine AWp.weaken hs ?_
  refine AWp.via (putρ 62 i 26) ⟨[(1, natsL ord), (2, .ptr f.cells), (5, .obj 5 0), (14, .i64 f.Blocks.length), (15, .i64 i)], [(5, .cells [.obj 11 0]), (11, .cells (f.cells ++ [.sl 28 (i + 1), .sl 38 (i + 1)])), (28, stR 62 (i + 1) k), (38, .rows 91 1 (i + 1) (nwR 63 36 i k)), (36, rowU k nonS), (62, stW (i + 1) k (fun _ => nonS)), (63, stW i k (fun _ => nonS))]⟩ ?_ ?_
  ·refine ⟨?_, ?_, putρ_inj (fun h => h), putρ_old (by decide) _⟩
   ·repeat' (first|exact rfl|exact trivial|refine And.intro ?_ ?_)
   ·refine And.intro (And.intro ⟨_, ⟨_, rfl, rfl, trivial⟩, rfl⟩ ?_) (And.intro (And.intro ⟨_, ⟨_, rfl, rfl, trivial⟩, rfl⟩ ?_) (And.intro (And.intro ⟨_, ⟨_, rfl, rfl, trivial⟩, Or.inl ⟨_, rfl, fun j hj => nwR_put hj⟩⟩ (fun j hj => And.intro ⟨j, hj, rfl⟩ trivial)) (And.intro (And.intro ⟨_, ⟨_, rfl, rfl, trivial⟩, Or.inl ⟨_, rfl, fun j hj => nwR_rn rfl rfl⟩⟩ (fun j hj => nwR_refs (fun q => ⟨j, q, rfl⟩) rfl)) (And.intro (And.intro ⟨_, ⟨_, rfl, rfl, trivial⟩, Or.inl ⟨_, rfl, fun j hj => rfl⟩⟩ trivial) (And.intro (stW_put rfl rfl) (And.intro (fun ix hD => And.intro ⟨_, ⟨_, rfl, rfl, hD⟩, Or.inl ⟨_, rfl, fun j hj => rfl⟩⟩ trivial) trivial))))))
    all_goals repeat' (first|exact rfl|exact trivial|refine And.intro ?_ ?_)
  refine AWp.via (putρ 63 i 36) ⟨[(1, natsL ord), (2, .ptr f.cells), (5, .obj 5 0), (14, .i64 f.Blocks.length), (15, .i64 i)], [(5, .cells [.obj 11 0]), (11, .cells (f.cells ++ [.sl 28 (i + 1), .sl 38 (i + 1)])), (28, stR 62 (i + 1) k), (38, stR 63 (i + 1) k), (62, stW (i + 1) k (fun _ => nonS)), (63, stW (i + 1) k (fun _ => nonS))]⟩ ?_ ?_
  ·refine ⟨?_, ?_, putρ_inj (fun h => h), putρ_old (by decide) _⟩
   ·repeat' (first|exact rfl|exact trivial|refine And.intro ?_ ?_)
   ·refine And.intro (And.intro ⟨_, ⟨_, rfl, rfl, trivial⟩, rfl⟩ ?_) (And.intro (And.intro ⟨_, ⟨_, rfl, rfl, trivial⟩, rfl⟩ ?_) (And.intro (And.intro ⟨_, ⟨_, rfl, rfl, trivial⟩, Or.inl ⟨_, rfl, fun j hj => rfl⟩⟩ (fun j hj => And.intro ⟨j, hj, rfl⟩ trivial)) (And.intro (And.intro ⟨_, ⟨_, rfl, rfl, trivial⟩, Or.inl ⟨_, rfl, fun j hj => nwR_put hj⟩⟩ (fun j hj => And.intro ⟨j, hj, rfl⟩ trivial)) (And.intro (fun ix hD => And.intro ⟨_, ⟨_, rfl, rfl, hD⟩, Or.inl ⟨_, rfl, fun j hj => rfl⟩⟩ trivial) (And.intro (stW_put rfl rfl) trivial)))))
    all_goals repeat' (first|exact rfl|exact trivial|refine And.intro ?_ ?_)
  refine AWp.rename 28 60 rfl rfl ?_
  refine AWp.rename 38 61 rfl rfl ?_
  repeat (first|apply zq|apply zb|apply zk)
  apply zr
  intro _
  refine round_end (i + 1) hi ?_ (by omega)
  refine And.intro ?_ (And.intro (rfl) (And.intro ?_ (And.intro (rfl) (And.intro ?_ (And.intro (⟨_, _, rfl, rfl, fun i hi => rfl⟩) (And.intro (fun i hi => And.intro ⟨i, hi, rfl⟩ trivial) (And.intro (⟨_, _, rfl, fun z hz => ⟨hz, _, _, rfl, rfl, fun i hi => rfl⟩⟩) (And.intro (fun z hz => trivial) (And.intro (⟨_, _, rfl, rfl, fun i hi => rfl⟩) (And.intro (fun i hi => And.intro ⟨i, hi, rfl⟩ trivial) (And.intro (⟨_, _, rfl, fun z hz => ⟨hz, _, _, rfl, rfl, fun i hi => rfl⟩⟩) (And.intro (fun z hz => trivial) (trivial)))))))))))))
  all_goals repeat' (first|exact rfl|exact trivial|exact congrArg (fun z => some (AV.i64 z)) (wrap_succ hi hbm)|refine And.intro ?_ ?_)
 have hi3 : ¬ (i : Int) < f.Blocks.length := of_decide_eq_false h1
 obtain rfl : i = f.Blocks.length := by omega
 apply ze
 refine AWpM.seq ?_
 refine AWpM.seq ?_
 refine AWpM.of ?_
 repeat (first|apply zq|apply zb|apply zk)
 apply zr
 intro _
 refine AWpM.block ?_
 refine AWpM.loop (fun s : Knw × Knw × Bool => ⟨[(1, natsL ord), (5, .obj 5 0), (6, .obj 6 0)], [(5, .cells [.obj 11 0]), (11, .cells (f.cells ++ [.sl 60 f.Blocks.length, .sl 61 f.Blocks.length])), (60, stR 62 f.Blocks.length k), (62, stW f.Blocks.length k (s.1)), (61, stR 63 f.Blocks.length k), (63, stW f.Blocks.length k (s.2.1)), (6, .cells [.bool s.2.2])]⟩) (fun s => OkS f s.1 s.2.1 ∧ (s.2.2 = false → ∀ b, b < f.Blocks.length → ∀ w, w < f.Values.length → (s.1 b w = nedB f (w : Int) b ∧ (s.2.1 b w = true ↔ BhP f (w : Int) b)))) (fun s => 2560 - cntS s.1 + s.2.2.toNat) ((fun _ => nonS), (fun _ => nonS), true) ⟨⟨(fun b w hb h => by cases h), (fun b w hb h => by cases h)⟩, (fun h => by cases h)⟩ ?_ ?_
 ·refine And.intro ?_ (And.intro (rfl) (And.intro ?_ (And.intro (rfl) (And.intro ?_ (And.intro (⟨_, _, rfl, rfl, fun i hi => rfl⟩) (And.intro (fun i hi => And.intro ⟨i, hi, rfl⟩ trivial) (And.intro (⟨_, _, rfl, fun z hz => ⟨hz, _, _, rfl, rfl, fun i hi => rfl⟩⟩) (And.intro (fun z hz => trivial) (And.intro (⟨_, _, rfl, rfl, fun i hi => rfl⟩) (And.intro (fun i hi => And.intro ⟨i, hi, rfl⟩ trivial) (And.intro (⟨_, _, rfl, fun z hz => ⟨hz, _, _, rfl, rfl, fun i hi => rfl⟩⟩) (And.intro (fun z hz => trivial) (And.intro (rfl) (And.intro ?_ (trivial)))))))))))))))
  all_goals repeat' (first|exact rfl|exact trivial|refine And.intro ?_ ?_)
 rintro ⟨A, O, g⟩ ⟨hok, hdn⟩
 refine AWpM.seq ?_
 refine AWpM.of ?_
 repeat (first|apply zq|apply zb|apply zk)
 apply zr
 intro _
 repeat (first|apply zq|apply zb|apply zk)
 refine AWp.cond (And.intro (fun h1 => ?_) (fun h1 => ?_))
 ·obtain rfl : g = true := h1
  have hok : OkS f A O := hok
  have hlm : ∀ j, j < ord.length → ordZ ord j < f.Blocks.length := hlt
  refine AWp.skip ?_
  refine AWpM.seq ?_
  refine AWpM.block ?_
  refine AWpM.seq ?_
  refine AWpM.of ?_
  repeat (first|apply zq|apply zb|apply zk)
  apply zr
  intro _
  refine AWpM.seq ?_
  refine AWpM.of ?_
  repeat (first|apply zq|apply zb|apply zk)
  apply zr
  refine CallX.pure (c_Backward ord.length (fun i => ((ordZ ord i : Nat) : Int))) rfl rfl rfl ?_
  intro _
  refine AWpM.block ?_
  refine AWpM.rangeBack backOK rfl (rnJ f ord k A O) rnσ [(5, .obj 1006 0), (6, .obj 1007 0)] ?_ ?_ ?_ ?_ rfl ?_ rfl ?_ ?_
  ·exact And.intro rfl (And.intro rfl (And.intro rfl (And.intro rfl trivial)))
  ·exact And.intro rfl (And.intro rfl (And.intro rfl (And.intro rfl (And.intro rfl (And.intro rfl (And.intro rfl trivial))))))
  ·refine And.intro ?_ (And.intro (fun i hi => And.intro ⟨i, hi, rfl⟩ trivial) (And.intro (fun z hz => trivial) (And.intro (fun i hi => And.intro ⟨i, hi, rfl⟩ trivial) (And.intro (fun z hz => trivial) (And.intro (And.intro rfl trivial) (And.intro (And.intro trivial trivial) trivial))))))
   repeat' (first|exact rfl|exact trivial|refine And.intro ?_ ?_)
  ·exact And.intro trivial (And.intro trivial (And.intro (fun ix h => h) (And.intro trivial (And.intro (fun ix h => h) (And.intro trivial (And.intro trivial trivial))))))
  ·exact fun j nm _ h => domP_same (h := rnJ f ord k A O 0) (h' := rnJ f ord k A O j) (And.intro rfl (And.intro trivial (And.intro rfl (And.intro trivial (And.intro rfl (And.intro (fun ix h => h) (And.intro rfl (And.intro trivial (And.intro rfl (And.intro (fun ix h => h) (And.intro rfl (And.intro trivial (And.intro rfl (And.intro trivial trivial)))))))))))))) nm h
  ·intro j hj
   have hb := hlm (ord.length - 1 - j) (by omega)
   have hm := m_round f hC hf hk (psS f (ordZ ord) ord.length k A O j).1 (psS f (ordZ ord) ord.length k A O j).2.1 (ordZ ord (ord.length - 1 - j)) hb
   refine AWpR.region rfl ?_
   intro _
   refine AWpR.block ?_
   refine AWpR.seq ?_
   refine AWpR.region rfl ?_
   refine CallX.lend hm rnσ1 rfl (And.intro rfl (And.intro rfl (And.intro rfl (And.intro rfl (And.intro rfl trivial))))) rfl ?_
   intro _
   refine AWpR.cond (And.intro (fun h3 => ?_) (fun h3 => ?_))
   ·refine AWpR.region rfl ?_
    intro _
    have h3 : grw ((psS f (ordZ ord) ord.length k A O j).1 (ordZ ord (ord.length - 1 - j))) (rdIn f (ordZ ord (ord.length - 1 - j)) (psS f (ordZ ord) ord.length k A O j).1 (psS f (ordZ ord) ord.length k A O j).2.1) k = true := h3
    refine And.intro rfl (And.intro trivial (And.intro (rfl) (And.intro ?_ (And.intro (⟨_, _, rfl, rfl, fun i hi => rfl⟩) (And.intro (fun i hi => And.intro ⟨i, hi, rfl⟩ trivial) (And.intro (⟨_, _, rfl, fun z hz => ⟨hz, _, _, rfl, rfl, fun i hi => rfl⟩⟩) (And.intro (fun z hz => trivial) (And.intro (⟨_, _, rfl, rfl, fun i hi => rfl⟩) (And.intro (fun i hi => And.intro ⟨i, hi, rfl⟩ trivial) (And.intro (⟨_, _, rfl, fun z hz => ⟨hz, _, _, rfl, rfl, fun i hi => rfl⟩⟩) (And.intro (fun z hz => trivial) (And.intro (rfl) (And.intro ?_ (And.intro (congrArg (fun z => some (HO.cells [AV.bool z])) (by show true = (_ || _); rw [h3, Bool.or_true])) (And.intro ?_ (trivial))))))))))))))))
    all_goals repeat' (first|exact rfl|exact trivial|refine And.intro ?_ ?_)
   ·refine AWpR.skip ?_
    have h3 : grw ((psS f (ordZ ord) ord.length k A O j).1 (ordZ ord (ord.length - 1 - j))) (rdIn f (ordZ ord (ord.length - 1 - j)) (psS f (ordZ ord) ord.length k A O j).1 (psS f (ordZ ord) ord.length k A O j).2.1) k = false := h3
    refine And.intro rfl (And.intro trivial (And.intro (rfl) (And.intro ?_ (And.intro (⟨_, _, rfl, rfl, fun i hi => rfl⟩) (And.intro (fun i hi => And.intro ⟨i, hi, rfl⟩ trivial) (And.intro (⟨_, _, rfl, fun z hz => ⟨hz, _, _, rfl, rfl, fun i hi => rfl⟩⟩) (And.intro (fun z hz => trivial) (And.intro (⟨_, _, rfl, rfl, fun i hi => rfl⟩) (And.intro (fun i hi => And.intro ⟨i, hi, rfl⟩ trivial) (And.intro (⟨_, _, rfl, fun z hz => ⟨hz, _, _, rfl, rfl, fun i hi => rfl⟩⟩) (And.intro (fun z hz => trivial) (And.intro (rfl) (And.intro ?_ (And.intro (congrArg (fun z => some (HO.cells [AV.bool z])) (by show _ = (_ || _); rw [h3, Bool.or_false])) (And.intro ?_ (trivial))))))))))))))))
    all_goals repeat' (first|exact rfl|exact trivial|refine And.intro ?_ ?_)
  ·refine AWpM.seq ?_
   refine AWpM.of ?_
   repeat (first|apply zq|apply zb|apply zk)
   apply zr
   intro _
   refine AWpM.of ?_
   refine AWp.weaken (s' := ⟨[(1, natsL ord), (5, .obj 5 0), (52, .bool (psS f (ordZ ord) ord.length k A O ord.length).2.2)], [(5, .cells [.obj 11 0]), (11, .cells (f.cells ++ [.sl 60 f.Blocks.length, .sl 61 f.Blocks.length])), (60, stR 62 f.Blocks.length k), (62, stW f.Blocks.length k ((psS f (ordZ ord) ord.length k A O ord.length).1)), (61, stR 63 f.Blocks.length k), (63, stW f.Blocks.length k ((psS f (ordZ ord) ord.length k A O ord.length).2.1))]⟩) ?_ ?_
   ·refine And.intro ?_ (And.intro (rfl) (And.intro ?_ (And.intro (rfl) (And.intro ?_ (And.intro (⟨_, _, rfl, rfl, fun i hi => rfl⟩) (And.intro (fun i hi => And.intro ⟨i, hi, rfl⟩ trivial) (And.intro (⟨_, _, rfl, fun z hz => ⟨hz, _, _, rfl, rfl, fun i hi => rfl⟩⟩) (And.intro (fun z hz => trivial) (And.intro (⟨_, _, rfl, rfl, fun i hi => rfl⟩) (And.intro (fun i hi => And.intro ⟨i, hi, rfl⟩ trivial) (And.intro (⟨_, _, rfl, fun z hz => ⟨hz, _, _, rfl, rfl, fun i hi => rfl⟩⟩) (And.intro (fun z hz => trivial) (trivial)))))))))))))
    all_goals repeat' (first|exact rfl|exact trivial|refine And.intro ?_ ?_)
   repeat (first|apply zq|apply zb|apply zk)
   apply zr
   intro _
   refine Exists.intro ((psS f (ordZ ord) ord.length k A O ord.length).1, (psS f (ordZ ord) ord.length k A O ord.length).2.1, (psS f (ordZ ord) ord.length k A O ord.length).2.2) (And.intro ⟨ps_ok hC hf hlm hok _ (Nat.le_refl _), fun hg => ps_done hC hf hlm hall hok hk hg⟩ (And.intro ?_ ?_))
   ·refine And.intro ?_ (And.intro (rfl) (And.intro ?_ (And.intro (rfl) (And.intro ?_ (And.intro (⟨_, _, rfl, rfl, fun i hi => rfl⟩) (And.intro (fun i hi => And.intro ⟨i, hi, rfl⟩ trivial) (And.intro (⟨_, _, rfl, fun z hz => ⟨hz, _, _, rfl, rfl, fun i hi => rfl⟩⟩) (And.intro (fun z hz => trivial) (And.intro (⟨_, _, rfl, rfl, fun i hi => rfl⟩) (And.intro (fun i hi => And.intro ⟨i, hi, rfl⟩ trivial) (And.intro (⟨_, _, rfl, fun z hz => ⟨hz, _, _, rfl, rfl, fun i hi => rfl⟩⟩) (And.intro (fun z hz => trivial) (And.intro (rfl) (And.intro ?_ (trivial)))))))))))))))
    all_goals repeat' (first|exact rfl|exact trivial|refine And.intro ?_ ?_)
   ·show 2560 - cntS (psS f (ordZ ord) ord.length k A O ord.length).1 + (psS f (ordZ ord) ord.length k A O ord.length).2.2.toNat < 2560 - cntS A + (true : Bool).toNat
    have hmx := cntS_max (A := (psS f (ordZ ord) ord.length k A O ord.length).1)
    cases hq : (psS f (ordZ ord) ord.length k A O ord.length).2.2 with
    | true =>
     have := ps_more hC hf hlm hok (Nat.le_refl _) hq
     show _ + 1 < _ + 1
     omega
    | false =>
     rw [ps_same hC hf hlm hok hk (Nat.le_refl _) hq]
     show _ + 0 < _ + 1
     omega
 ·obtain rfl : g = false := h1
  have hdn : ∀ b, b < f.Blocks.length → ∀ w, w < f.Values.length → (A b w = nedB f (w : Int) b ∧ (O b w = true ↔ BhP f (w : Int) b)) := hdn rfl
  have hok : OkS f A O := hok
  have hA : ∀ z, inD f.Blocks.length z → A (z.headD 0) = nedA f (z.headD 0) ∧ O (z.headD 0) = behA f (z.headD 0) := fun z ⟨b, hb, e⟩ => by
   subst e; exact nedA_of hok hb (hdn b hb)
  apply ze
  refine AWpM.of ?_
  repeat (first|apply zq|apply zb|apply zk)
  apply zr
  intro _
  refine AWp.ret ⟨Or.inl rfl, ?_⟩
  intro _
  refine And.intro rfl (And.intro rfl (And.intro (rfl) (And.intro ?_ (And.intro (⟨_, _, rfl, rfl, fun i hi => rfl⟩) (And.intro (fun i hi => And.intro ⟨i, hi, rfl⟩ trivial) (And.intro (⟨_, _, rfl, fun z hz => ⟨hz, _, _, rfl, rfl, fun i hi => congrArg (fun S => bitC S i) (hA z hz).1.symm⟩⟩) (And.intro (fun z hz => trivial) (And.intro (⟨_, _, rfl, rfl, fun i hi => rfl⟩) (And.intro (fun i hi => And.intro ⟨i, hi, rfl⟩ trivial) (And.intro (⟨_, _, rfl, fun z hz => ⟨hz, _, _, rfl, rfl, fun i hi => congrArg (fun S => bitC S i) (hA z hz).2.symm⟩⟩) (And.intro (fun z hz => trivial) (trivial))))))))))))
  all_goals repeat' (first|exact rfl|exact trivial|refine And.intro ?_ ?_)
end Go.Proofs.Ytjjgjflbhpoloaa
/- Contract of live.Sets. No condition. -/
namespace Go.Proofs.Ytjjgjflbhpoloaa
open Go Go.Abs Go.RowKit Go.Abs.Gra
theorem ord_all2 {sc : Nat → List Nat} {n : Nat} (h : OrdOk sc n) : (∀ i, i < (ordF sc n).length → (ordF sc n).getD i 0 < n) ∧ ∀ b, b < n → ∃ i, i < (ordF sc n).length ∧ (ordF sc n).getD i 0 = b := by
 have hl := h.len
 have h1 : ∀ i, i < (ordF sc n).length → (ordF sc n).getD i 0 < n := fun i hi => (h.at_ i (by omega)).1
 refine ⟨h1, fun b hb => ?_⟩
 have hg : ∀ i (hi : i < (ordF sc n).length), (ordF sc n)[i] = (ordF sc n).getD i 0 := fun i hi => by rw [List.getD_eq_getElem?_getD, List.getElem?_eq_getElem hi]; rfl
 have hnd : (ordF sc n).Nodup := by
  rw [List.nodup_iff_pairwise_ne, List.pairwise_iff_getElem]
  intro i j hi hj hij e
  rw [hg i hi, hg j hj] at e
  have e1 := (h.at_ i (by omega)).2
  rw [e, (h.at_ j (by omega)).2] at e1
  omega
 have hb' : ∀ v ∈ ordF sc n, v < n := fun v hv => by
  obtain ⟨i, hi, e⟩ := List.getElem_of_mem hv
  rw [← e, hg i hi]; exact h1 i hi
 obtain ⟨i, hi, e⟩ := List.getElem_of_mem ((nodup_len n _ hnd hb').2 hl b hb)
 exact ⟨i, hi, by rw [← hg i hi]; exact e⟩
@[reducible] noncomputable def ndC (f : Fun) (k : Nat) : List AV := f.cells ++ [.ro 1 f.Blocks.length (fun b => [bitV k (nedA f b)]), .ro 1 f.Blocks.length (fun b => [bitV k (behA f b)])]
end Go.Proofs.Ytjjgjflbhpoloaa
/- Contract of the document's SetsOf. No condition. -/
namespace Go.Proofs.Ytjjgjflbhpoloaa
open Go Go.Abs Go.RowKit Go.Abs.Gra
section
variable {S : Nat → Nat → Bool} {v b c : Nat}
end
theorem inD_lt {n : Nat} {z : List Nat} (h : inD n z) : z.headD 0 < n := by obtain ⟨j, hj, rfl⟩ := h; exact hj
end Go.Proofs.Ytjjgjflbhpoloaa
/- Contract of sameRows. Condition: rows that may be. -/
namespace Go.Proofs.Ytjjgjflbhpoloaa
open Go Go.Abs Go.RowKit Go.Abs.Gra
theorem chkd_of0 {f : Fun} {m : Mch} (h0 : flwF f m = 0) : Chkd f := chkd_of (Classical.byContradiction fun hn => by rw [flwF_1 hn] at h0; exact hn h0)
end Go.Proofs.Ytjjgjflbhpoloaa
