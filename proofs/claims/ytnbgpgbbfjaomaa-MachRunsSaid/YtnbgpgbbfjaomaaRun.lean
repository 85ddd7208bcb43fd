/- What a function does by its values: run's step, follow and instr, the plain machine. Condition: a checked function. -/
import Derived.Test.YtnbgpgbbfjaomaaDom
set_option linter.unusedVariables false
set_option linter.unusedSimpArgs false
/- Contract of run's step. Condition: none. -/
namespace Go.Proofs.Ytnbgpgbbfjaomaa
open Go Go.Abs Go.RowKit Go.Abs.Gra

/-- What is done: a block, an instruction, what is read, the edge taken. -/
structure Evt where
  b : Nat
  at_ : Nat
  read : List Int
  edge : Int
instance : Inhabited Evt := ⟨⟨0, 0, [], 0⟩⟩
@[reducible] def evtC (e : Evt) : List AV := [.i64 e.b, .i64 e.at_, ints e.read, .i64 e.edge]
@[reducible] def rowE (L : List Evt) : HO := .row 131 4 L.length (fun i => evtC (L.getD i default))
@[reducible] def rnrC (f : Fun) (seed left : Int) (v e n : Nat) : HO := .cells (f.cells ++ [.i64 seed, .i64 left, .sl ⟨v, []⟩ f.Values.length, .sl ⟨e, []⟩ n])
/-- Values behind an edge: the first k params have taken what the args had. -/
def folF (g : Nat → Int) (az ps : List Int) : Nat → Nat → Int
  | 0 => g
  | k + 1 => fun i => if i = (ps.getD k default).toNat then g (az.getD k default).toNat else folF g az ps k i
end Go.Proofs.Ytnbgpgbbfjaomaa

/- Contract of run's instr. Condition: a checked function. -/
namespace Go.Proofs.Ytnbgpgbbfjaomaa
open Go Go.Abs Go.RowKit Go.Abs.Gra

/-- What the first j operands of an instruction read. -/
def readF (g : Nat → Int) (x : Ins) (j : Nat) : List Int := ((x.Operands.take j).filter fun o => o.Kind == 1).map fun o => g o.Value.toNat
theorem readF_hit {g : Nat → Int} {x : Ins} {j : Nat} (hj : j < x.Operands.length) (h : ((x.Operands.getD j default).Kind == 1) = true) : readF g x (j + 1) = readF g x j ++ [g (x.Operands.getD j default).Value.toNat] := by
  unfold readF; rw [take_succ_getD hj, List.filter_append, List.map_append]; simp only [List.filter_cons, h, if_true, List.filter_nil, List.map_cons, List.map_nil]
theorem readF_miss {g : Nat → Int} {x : Ins} {j : Nat} (hj : j < x.Operands.length) (h : ((x.Operands.getD j default).Kind == 1) = false) : readF g x (j + 1) = readF g x j := by
  unfold readF; rw [take_succ_getD hj, List.filter_append, List.map_append, List.filter_cons, if_neg (by rw [h]; decide)]; simp
theorem readF_len {g : Nat → Int} {x : Ins} {j : Nat} : (readF g x j).length ≤ x.Operands.length := by
  unfold readF
  rw [List.length_map]
  exact Nat.le_trans (List.length_filter_le _ _) (by rw [List.length_take]; exact Nat.min_le_right _ _)
/-- Values behind the first j operands of an instruction. -/
def dfF (seed : Int) (x : Ins) (rd : List Int) (g : Nat → Int) : Nat → Nat → Int
  | 0 => g
  | j + 1 => fun i => if (x.Operands.getD j default).Kind = 2 ∧ i = (x.Operands.getD j default).Value.toNat then mixF (seed :: x.Op :: (j : Int) :: rd) else dfF seed x rd g j i
theorem snocI_row {l : List Int} {v : Int} {i : Nat} (hi : i < l.length + 1) : intC ((l ++ [v]).getD i default) = if i < l.length then intC (l.getD i default) else ([[AV.val (Value.int IntKind.i64 v)]].getD (i - l.length) []) := by
  by_cases h : i < l.length
  · rw [if_pos h, List.getD_eq_getElem?_getD, List.getD_eq_getElem?_getD, List.getElem?_append_left h]
  · have e : i = l.length := by omega
    subst e
    rw [if_neg h, Nat.sub_self, List.getD_eq_getElem?_getD]; simp
theorem snocE_row {l : List Evt} {v : Evt} {i : Nat} (hi : i < l.length + 1) : evtC ((l ++ [v]).getD i default) = if i < l.length then evtC (l.getD i default) else ([evtC v].getD (i - l.length) []) := by
  by_cases h : i < l.length
  · rw [if_pos h, List.getD_eq_getElem?_getD, List.getD_eq_getElem?_getD, List.getElem?_append_left h]
  · have e : i = l.length := by omega
    subst e
    rw [if_neg h, Nat.sub_self, List.getD_eq_getElem?_getD]; simp
@[reducible] def insAt (f : Fun) (b a : Nat) : Ins := (f.Blocks.getD b default).Instrs.getD a default
@[reducible] def rdAt (f : Fun) (g : Nat → Int) (b a : Nat) : List Int := readF g (insAt f b a) (insAt f b a).Operands.length
@[reducible] def evAt (f : Fun) (seed : Int) (g : Nat → Int) (b a : Nat) : Evt := ⟨b, a, rdAt f g b a, takesF seed (f.Blocks.getD b default) a (rdAt f g b a)⟩
@[reducible] def dfAt (f : Fun) (seed : Int) (g : Nat → Int) (b a : Nat) : Nat → Int := dfF seed (insAt f b a) (rdAt f g b a) g (insAt f b a).Operands.length
end Go.Proofs.Ytnbgpgbbfjaomaa

/- Plain: what a function does, step by step. Condition: none. -/
namespace Go.Proofs.Ytnbgpgbbfjaomaa
open Go Go.Abs Go.RowKit Go.Abs.Gra

theorem chkd_args {f : Fun} {m : Mch} (h : chkF f m = 0) {k j : Nat} (hk : k < f.Blocks.length) (hj : j < (f.Blocks.getD k default).Edges.length) :
    ((f.Blocks.getD k default).Edges.getD j default).Args.length = (f.Blocks.getD ((f.Blocks.getD k default).Edges.getD j default).Block.toNat default).Params.length := by
  obtain ⟨h1, h2, h3, h4, h5⟩ := chkF_zero h
  exact (edgF_zero (firstF_zero (blkF_zero (firstF_zero h4 k hk)).2 j hj)).2.1
/-- So many steps from the p'th place of a block on (0: its entry). -/
def srcF (f : Fun) (seed : Int) : Nat → Nat → Nat → (Nat → Int) → List Evt → List Evt
  | 0, _, _, _, L => L
  | k + 1, b, 0, g, L =>
    if 0 < (f.Blocks.getD b default).Instrs.length then srcF f seed k b 1 g L
    else if (f.Blocks.getD b default).Edges.length = 0 then L
    else srcF f seed k ((f.Blocks.getD b default).Edges.getD 0 default).Block.toNat 0 (folF g ((f.Blocks.getD b default).Edges.getD 0 default).Args (f.Blocks.getD ((f.Blocks.getD b default).Edges.getD 0 default).Block.toNat default).Params (f.Blocks.getD ((f.Blocks.getD b default).Edges.getD 0 default).Block.toNat default).Params.length) L
  | k + 1, b, p + 1, g, L =>
    if p + 1 < (f.Blocks.getD b default).Instrs.length then srcF f seed k b (p + 2) (dfAt f seed g b p) (L ++ [evAt f seed g b p])
    else if (f.Blocks.getD b default).Edges.length = 0 then L ++ [evAt f seed g b p]
    else srcF f seed k ((f.Blocks.getD b default).Edges.getD (evAt f seed g b p).edge.toNat default).Block.toNat 0 (folF (dfAt f seed g b p) ((f.Blocks.getD b default).Edges.getD (evAt f seed g b p).edge.toNat default).Args (f.Blocks.getD ((f.Blocks.getD b default).Edges.getD (evAt f seed g b p).edge.toNat default).Block.toNat default).Params (f.Blocks.getD ((f.Blocks.getD b default).Edges.getD (evAt f seed g b p).edge.toNat default).Block.toNat default).Params.length) (L ++ [evAt f seed g b p])
/-- Along an edge, and so many steps on. -/
def conF (f : Fun) (seed : Int) (k b : Nat) (ed : Int) (g : Nat → Int) (L : List Evt) : List Evt :=
  if (f.Blocks.getD b default).Edges.length = 0 then L
  else srcF f seed k ((f.Blocks.getD b default).Edges.getD ed.toNat default).Block.toNat 0 (folF g ((f.Blocks.getD b default).Edges.getD ed.toNat default).Args (f.Blocks.getD ((f.Blocks.getD b default).Edges.getD ed.toNat default).Block.toNat default).Params (f.Blocks.getD ((f.Blocks.getD b default).Edges.getD ed.toNat default).Block.toNat default).Params.length) L
theorem srcF_zero {f : Fun} {seed : Int} {b p : Nat} {g : Nat → Int} {L : List Evt} : srcF f seed 0 b p g L = L := by cases p <;> rfl
theorem srcF_in {f : Fun} {seed : Int} {k b : Nat} {g : Nat → Int} {L : List Evt} : srcF f seed (k + 1) b 0 g L = if 0 < (f.Blocks.getD b default).Instrs.length then srcF f seed k b 1 g L else conF f seed k b 0 g L := by
  rw [srcF]; rfl
theorem srcF_at {f : Fun} {seed : Int} {k b p : Nat} {g : Nat → Int} {L : List Evt} : srcF f seed (k + 1) b (p + 1) g L = if p + 1 < (f.Blocks.getD b default).Instrs.length then srcF f seed k b (p + 2) (dfAt f seed g b p) (L ++ [evAt f seed g b p]) else conF f seed k b (evAt f seed g b p).edge (dfAt f seed g b p) (L ++ [evAt f seed g b p]) := by
  rw [srcF]; rfl
theorem takes_lt {seed : Int} {b : Blk} {p : Nat} {l : List Int} (hp : p + 1 = b.Instrs.length) (he : 0 < b.Edges.length) : 0 ≤ takesF seed b p l ∧ takesF seed b p l < b.Edges.length := by
  unfold takesF
  rw [if_neg (by omega)]
  split
  · omega
  · have hm := mixF_range (seed :: (b.Instrs.getD ((p : Int)).toNat default).Op :: -1 :: l)
    have hpos : (0 : Int) < b.Edges.length := by omega
    refine ⟨Int.tmod_nonneg _ hm.1, ?_⟩
    rw [Int.tmod_eq_emod_of_nonneg hm.1]
    exact Int.emod_lt_of_pos _ hpos
end Go.Proofs.Ytnbgpgbbfjaomaa

/- Contract of the law's sameEvents at equal arguments. Condition: lengths. -/
namespace Go.Proofs.Ytnbgpgbbfjaomaa
open Go Go.Abs Go.RowKit Go.Abs.Gra

@[reducible] def evtV (L : List Evt) : AV := .ro 4 L.length (fun i => evtC (L.getD i default))
set_option maxHeartbeats 1000000 in
theorem c_sameEvents (L : List Evt) (hL : L.length ≤ maxLen) (hr : ∀ i, i < L.length → (L.getD i default).read.length ≤ maxLen) : ACallIs B.P 17 [evtV L, evtV L] (.bool true) := by
  refine ACallIs.enter B _ _ Try.func17 rfl rfl Try.ntmps17 Try.results17 rfl fun hreal => ?_
  clear hreal
  repeat (first | refine AWp.seq ?_ | refine AWp.block ?_ | refine AWp.skip ?_)
  refine AWp.region ?_
  intro _
  repeat (first | refine AWp.seq ?_ | refine AWp.block ?_ | refine AWp.skip ?_)
  refine AWp.region ?_
  intro _
  repeat (first | refine AWp.seq ?_ | refine AWp.block ?_ | refine AWp.skip ?_)
  refine AWp.cond (And.intro (fun h => ?_) (fun h => ?_))
  · exfalso
    have h : ((L.length : Int) != (L.length : Int)) = true := h
    simp at h
  repeat (first | refine AWp.seq ?_ | refine AWp.block ?_ | refine AWp.skip ?_)
  refine AWp.region ?_
  intro _
  repeat (first | refine AWp.seq ?_ | refine AWp.block ?_ | refine AWp.skip ?_)
  refine AWp.loop (fun k : Nat => ⟨[(0, evtV L), (1, evtV L), (5, .i64 k)], []⟩) (fun k => k ≤ L.length) (fun k => L.length - k) 0 (Nat.zero_le _) ?_ ?_
  · repeat' (first | exact rfl | exact trivial | refine And.intro ?_ ?_)
  intro k hk
  repeat (first | refine AWp.seq ?_ | refine AWp.block ?_ | refine AWp.skip ?_)
  refine AWp.region ?_
  intro _
  repeat (first | refine AWp.seq ?_ | refine AWp.block ?_ | refine AWp.skip ?_)
  refine AWp.cond (And.intro (fun h1 => ?_) (fun h1 => ?_))
  · have hk' : k < L.length := Int.ofNat_lt.1 (of_decide_eq_true h1)
    have hs := c_sameR (L.getD k default).read.length (fun i => (L.getD k default).read.getD i default) (hr k hk')
    repeat (first | refine AWp.seq ?_ | refine AWp.block ?_ | refine AWp.skip ?_)
    refine AWp.draw mixed (by kernel_rfl) ?_
    repeat' (first | refine And.intro ?_ ?_ | refine CallK.intro (fun _ => hs) ?_)
    all_goals first | exact fun h => h | exact gT | exact gF | exact gN | exact (fun _ => And.intro (Int.natCast_nonneg _) (Int.ofNat_lt.2 hk')) | skip
    intro _
    repeat (first | refine AWp.seq ?_ | refine AWp.block ?_ | refine AWp.skip ?_)
    refine AWp.cond (And.intro (fun h2 => ?_) (fun h2 => ?_))
    · exfalso
      simp at h2
    repeat (first | refine AWp.seq ?_ | refine AWp.block ?_ | refine AWp.skip ?_)
    refine AWp.region ?_
    intro _
    exact round_end (k + 1) hk' (by repeat' (first | exact rfl | exact trivial | exact congrArg (fun z => some (AV.i64 z)) (wrap_succ hk' hL) | refine And.intro ?_ ?_)) (by omega)
  refine AWp.exit ?_
  repeat (first | refine AWp.seq ?_ | refine AWp.block ?_ | refine AWp.skip ?_)
  refine AWp.region ?_
  intro _
  refine AWp.ret ⟨Or.inl rfl, rfl, ?_⟩
  intro _
  rfl
end Go.Proofs.Ytnbgpgbbfjaomaa
