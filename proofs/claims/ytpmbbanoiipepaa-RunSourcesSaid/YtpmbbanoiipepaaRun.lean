/- What a function does by its values: run's step, follow and instr, the plain machine. Condition: a checked function. -/
import Derived.Test.YtpmbbanoiipepaaDom
set_option linter.unusedVariables false
set_option linter.unusedSimpArgs false
/- Contract of run's step. Condition: none. -/
namespace Go.Proofs.Ytpmbbanoiipepaa
open Go Go.Abs Go.RowKit Go.Abs.Gra

/-- What is done: a block, an instruction, what is read, the edge taken. -/
structure Evt where
  b : Nat
  at_ : Nat
  read : List Int
  edge : Int
instance : Inhabited Evt := ⟨⟨0, 0, [], 0⟩⟩
@[reducible] def evtC (e : Evt) : List AV := [.i64 e.b, .i64 e.at_, ints e.read, .i64 e.edge]
@[reducible] def rowE (L : List Evt) : HO := .row 133 4 L.length (fun i => evtC (L.getD i default))
@[reducible] def rnrC (f : Fun) (seed left : Int) (v e n : Nat) : HO := .cells (f.cells ++ [.i64 seed, .i64 left, .sl ⟨v, []⟩ f.Values.length, .sl ⟨e, []⟩ n])
theorem m_step (f : Fun) (seed left : Int) (g : Nat → Int) (L : List Evt) : ACallM B.P 64 ⟨[.obj 1001 0], [(1001, rnrC f seed left 1002 1003 L.length), (1002, rowG f.Values.length g), (1003, rowE L)], .bool (decide (IntKind.i64.wrap (left - 1) ≥ 0)), [(1001, rnrC f seed (IntKind.i64.wrap (left - 1)) 1002 1003 L.length), (1002, rowG f.Values.length g), (1003, rowE L)]⟩ := by
  refine ACallM.enter B _ _ Try.func64 rfl rfl Try.ntmps64 Try.results64 rfl ?_ fun hreal => ?_
  · refine And.intro ?_ (And.intro ?_ ?_)
    all_goals repeat' (first | exact rfl | exact trivial | refine And.intro ?_ ?_)
  clear hreal
  repeat (first | refine AWp.seq ?_ | refine AWp.block ?_ | refine AWp.skip ?_)
  refine AWp.region ?_
  intro _
  repeat (first | refine AWp.seq ?_ | refine AWp.block ?_ | refine AWp.skip ?_)
  refine AWp.region ?_
  intro _
  repeat (first | refine AWp.seq ?_ | refine AWp.block ?_ | refine AWp.skip ?_)
  refine AWp.region ?_
  intro _
  refine AWp.ret ⟨Or.inl rfl, ?_⟩
  intro _
  refine And.intro rfl (And.intro trivial (And.intro rfl (And.intro ?_ (And.intro ⟨_, _, rfl, rfl, fun i hi => rfl⟩ (And.intro trivial (And.intro ⟨_, _, rfl, rfl, fun i hi => rfl⟩ (And.intro trivial trivial)))))))
  all_goals repeat' (first | exact rfl | exact trivial | refine And.intro ?_ ?_)
/-- Values behind an edge: the first k params have taken what the args had. -/
def folF (g : Nat → Int) (az ps : List Int) : Nat → Nat → Int
  | 0 => g
  | k + 1 => fun i => if i = (ps.getD k default).toNat then g (az.getD k default).toNat else folF g az ps k i
set_option maxHeartbeats 1000000 in
theorem m_follow (f : Fun) (seed left : Int) (g : Nat → Int) (L : List Evt) (e : Edg) (hbk : 0 ≤ e.Block ∧ e.Block < f.Blocks.length) (ha : ∀ j, j < e.Args.length → 0 ≤ e.Args.getD j default ∧ e.Args.getD j default < f.Values.length) (hp : ∀ j, j < (f.Blocks.getD e.Block.toNat default).Params.length → 0 ≤ (f.Blocks.getD e.Block.toNat default).Params.getD j default ∧ (f.Blocks.getD e.Block.toNat default).Params.getD j default < f.Values.length) (hl : (f.Blocks.getD e.Block.toNat default).Params.length ≤ e.Args.length) (hal : e.Args.length ≤ 5) :
    ACallM B.P 66 ⟨[.obj 1001 0, e.av], [(1001, rnrC f seed left 1002 1003 L.length), (1002, rowG f.Values.length g), (1003, rowE L)], .tup [], [(1001, rnrC f seed left 1002 1003 L.length), (1002, rowG f.Values.length (folF g e.Args (f.Blocks.getD e.Block.toNat default).Params (f.Blocks.getD e.Block.toNat default).Params.length)), (1003, rowE L)]⟩ := by
  have halm : e.Args.length ≤ maxLen := by unfold maxLen; omega
  have hplm : (f.Blocks.getD e.Block.toNat default).Params.length ≤ maxLen := by omega
  refine ACallM.enter B _ _ Try.func66 rfl rfl Try.ntmps66 Try.results66 rfl ?_ fun hreal => ?_
  · refine And.intro ?_ (And.intro ?_ ?_)
    all_goals repeat' (first | exact rfl | exact trivial | refine And.intro ?_ ?_)
  clear hreal
  repeat (first | refine AWp.seq ?_ | refine AWp.block ?_ | refine AWp.skip ?_)
  refine AWp.region ?_
  intro _
  refine AWp.freezeObj 3 rfl rfl ?_
  repeat (first | refine AWp.seq ?_ | refine AWp.block ?_ | refine AWp.skip ?_)
  refine AWp.region ?_
  intro _
  repeat (first | refine AWp.seq ?_ | refine AWp.block ?_ | refine AWp.skip ?_)
  refine AWp.region ?_
  intro _
  refine AWp.adopt 4 60 3 1 rfl rfl rfl ?_
  repeat (first | refine AWp.seq ?_ | refine AWp.block ?_ | refine AWp.skip ?_)
  refine AWp.loop (fun j : Nat => ⟨[(0, .obj 1001 0), (3, .ptr e.cells), (4, .sl 60 j), (10, ints e.Args), (11, .i64 e.Args.length), (12, .i64 j)], [(1001, rnrC f seed left 1002 1003 L.length), (1002, rowG f.Values.length g), (1003, rowE L), (60, rowG j (fun i => g (e.Args.getD i default).toNat))]⟩) (fun j => j ≤ e.Args.length) (fun j => e.Args.length - j) 0 (Nat.zero_le _) ?_ ?_
  · refine And.intro ?_ (And.intro rfl (And.intro ?_ (And.intro ⟨_, _, rfl, rfl, fun i hi => rfl⟩ (And.intro trivial (And.intro ⟨_, _, rfl, rfl, fun i hi => rfl⟩ (And.intro trivial (And.intro ⟨_, _, rfl, rfl, fun i hi => absurd hi (Nat.not_lt_zero _)⟩ (And.intro trivial trivial))))))))
    all_goals repeat' (first | exact rfl | exact trivial | refine And.intro ?_ ?_)
  intro j hj
  repeat (first | refine AWp.seq ?_ | refine AWp.block ?_ | refine AWp.skip ?_)
  refine AWp.region ?_
  intro _
  repeat (first | refine AWp.seq ?_ | refine AWp.block ?_ | refine AWp.skip ?_)
  refine AWp.cond (And.intro (fun h1 => ?_) (fun h1 => ?_))
  · have hj' : j < e.Args.length := Int.ofNat_lt.1 (of_decide_eq_true h1)
    have hr := ha j hj'
    have hrn : (e.Args.getD j default).toNat < f.Values.length := by omega
    repeat (first | refine AWp.seq ?_ | refine AWp.block ?_ | refine AWp.skip ?_)
    refine AWp.region ?_
    refine And.intro (fun _ => And.intro (Int.natCast_nonneg _) (Int.ofNat_lt.2 hj')) ?_
    intro _
    repeat (first | refine AWp.seq ?_ | refine AWp.block ?_ | refine AWp.skip ?_)
    refine AWp.region ?_
    refine And.intro (fun _ => hr) (And.intro (fun _ => hrn) ?_)
    refine And.intro (Nat.le_refl _) (And.intro (fun i hi => ?_) (And.intro rfl (And.intro (by omega) ?_)))
    · have e : i = 0 := by omega
      subst e; rfl
    intro _
    refine AWp.rename 25 60 rfl rfl ?_
    repeat (first | refine AWp.seq ?_ | refine AWp.block ?_ | refine AWp.skip ?_)
    refine AWp.region ?_
    intro _
    refine round_end (j + 1) hj' ?_ (by omega)
    refine And.intro ?_ (And.intro rfl (And.intro ?_ (And.intro ⟨_, _, rfl, rfl, fun i hi => rfl⟩ (And.intro trivial (And.intro ⟨_, _, rfl, rfl, fun i hi => rfl⟩ (And.intro trivial (And.intro ⟨_, _, rfl, rfl, fun i hi => snocG_row (g := fun i => g (e.Args.getD i default).toNat) hi rfl⟩ (And.intro trivial trivial))))))))
    all_goals repeat' (first | exact rfl | exact trivial | exact congrArg (fun z => some (AV.i64 z)) (wrap_succ hj' halm) | refine And.intro ?_ ?_)
  have hj3 : ¬ (j : Int) < e.Args.length := of_decide_eq_false h1
  obtain rfl : j = e.Args.length := by omega
  refine AWp.exit ?_
  refine AWp.freeze 60 (fun i => intC (g (e.Args.getD i default).toNat)) rfl (fun i hi => rfl) ?_
  repeat (first | refine AWp.seq ?_ | refine AWp.block ?_ | refine AWp.skip ?_)
  refine AWp.quietFirst (.q 0 (.q 1 (.q 2 (.q 3 (.q 4 (.q 5 (.q 6 (.q 7 (.q 8 (.q 9 (.q 10 (.q 11 .fin)))))))))))) [0, 1, 2, 3, 4, 5, 6, 7, 8, 9, 10, 11] [1001] mixed (by kernel_rfl) ?_
  refine And.intro (fun _ => hbk) ?_
  intro _
  repeat (first | refine AWp.seq ?_ | refine AWp.block ?_ | refine AWp.skip ?_)
  refine AWp.loop (fun k : Nat => ⟨[(0, .obj 1001 0), (4, .ro 1 e.Args.length (fun i => intC (g (e.Args.getD i default).toNat))), (36, ints (f.Blocks.getD e.Block.toNat default).Params), (37, .i64 (f.Blocks.getD e.Block.toNat default).Params.length), (38, .i64 k)], [(1001, rnrC f seed left 1002 1003 L.length), (1002, rowG f.Values.length (folF g e.Args (f.Blocks.getD e.Block.toNat default).Params k)), (1003, rowE L)]⟩) (fun k => k ≤ (f.Blocks.getD e.Block.toNat default).Params.length) (fun k => (f.Blocks.getD e.Block.toNat default).Params.length - k) 0 (Nat.zero_le _) ?_ ?_
  · refine And.intro ?_ (And.intro rfl (And.intro ?_ (And.intro ⟨_, _, rfl, rfl, fun i hi => rfl⟩ (And.intro trivial (And.intro ⟨_, _, rfl, rfl, fun i hi => rfl⟩ (And.intro trivial trivial))))))
    all_goals repeat' (first | exact rfl | exact trivial | refine And.intro ?_ ?_)
  intro k hk
  repeat (first | refine AWp.seq ?_ | refine AWp.block ?_ | refine AWp.skip ?_)
  refine AWp.region ?_
  intro _
  repeat (first | refine AWp.seq ?_ | refine AWp.block ?_ | refine AWp.skip ?_)
  refine AWp.cond (And.intro (fun h2 => ?_) (fun h2 => ?_))
  · have hk' : k < (f.Blocks.getD e.Block.toNat default).Params.length := Int.ofNat_lt.1 (of_decide_eq_true h2)
    have hr := hp k hk'
    have hrn : ((f.Blocks.getD e.Block.toNat default).Params.getD k default).toNat < f.Values.length := by omega
    repeat (first | refine AWp.seq ?_ | refine AWp.block ?_ | refine AWp.skip ?_)
    refine AWp.region ?_
    refine And.intro (fun _ => And.intro (Int.natCast_nonneg _) (Int.ofNat_lt.2 hk')) ?_
    intro _
    repeat (first | refine AWp.seq ?_ | refine AWp.block ?_ | refine AWp.skip ?_)
    refine AWp.mono (Q := fun x s => x = .normal ∧ Sub ⟨[(0, .obj 1001 0), (4, .ro 1 e.Args.length (fun i => intC (g (e.Args.getD i default).toNat))), (36, ints (f.Blocks.getD e.Block.toNat default).Params), (37, .i64 (f.Blocks.getD e.Block.toNat default).Params.length), (38, .i64 k)], [(1001, rnrC f seed left 1002 1003 L.length), (1002, rowG f.Values.length (folF g e.Args (f.Blocks.getD e.Block.toNat default).Params (k + 1))), (1003, rowE L)]⟩ s) ?_ ?_
    · refine AWp.quietFirst (.q 0 (.q 4 (.q 5 (.q 6 (.q 7 (.q 8 (.c 1 false (.c 2 false (.c 3 false (.c 9 true (.c 10 true .fin .no) .no) .no) .no) .no))))))) [0, 4, 5, 6, 7, 8] [] mixed (by kernel_rfl) ?_
      repeat' (first | exact trivial | refine And.intro ?_ ?_)
      all_goals first | exact (fun _ => And.intro (Int.natCast_nonneg _) (Int.ofNat_lt.2 (Nat.lt_of_lt_of_le hk' hl))) | exact fun _ => hr | exact fun _ => hrn | exact hrn | skip
      all_goals
        intro _
        refine And.intro rfl (And.intro ?_ (And.intro rfl (And.intro ?_ (And.intro ⟨_, _, rfl, rfl, fun i hi => ?_⟩ (And.intro trivial (And.intro ⟨_, _, rfl, rfl, fun i hi => rfl⟩ (And.intro trivial trivial)))))))
        · repeat' (first | exact rfl | exact trivial | refine And.intro ?_ ?_)
        · repeat' (first | exact rfl | exact trivial | refine And.intro ?_ ?_)
        · show intC (if i = ((f.Blocks.getD e.Block.toNat default).Params.getD k default).toNat then g (e.Args.getD k default).toNat else folF g e.Args (f.Blocks.getD e.Block.toNat default).Params k i) = if i = ((f.Blocks.getD e.Block.toNat default).Params.getD k default).toNat then intC (g (e.Args.getD k default).toNat) else intC (folF g e.Args (f.Blocks.getD e.Block.toNat default).Params k i)
          split <;> rfl
    rintro _ _ ⟨rfl, hs⟩
    refine AWp.weaken hs ?_
    repeat (first | refine AWp.seq ?_ | refine AWp.block ?_ | refine AWp.skip ?_)
    refine AWp.region ?_
    intro _
    refine round_end (k + 1) hk' ?_ (by omega)
    refine And.intro ?_ (And.intro rfl (And.intro ?_ (And.intro ⟨_, _, rfl, rfl, fun i hi => rfl⟩ (And.intro trivial (And.intro ⟨_, _, rfl, rfl, fun i hi => rfl⟩ (And.intro trivial trivial))))))
    all_goals repeat' (first | exact rfl | exact trivial | exact congrArg (fun z => some (AV.i64 z)) (wrap_succ hk' hplm) | refine And.intro ?_ ?_)
  have hk3 : ¬ (k : Int) < (f.Blocks.getD e.Block.toNat default).Params.length := of_decide_eq_false h2
  obtain rfl : k = (f.Blocks.getD e.Block.toNat default).Params.length := by omega
  refine AWp.exit ?_
  refine ⟨Or.inr rfl, ?_⟩
  intro _
  refine And.intro rfl (And.intro trivial (And.intro rfl (And.intro ?_ (And.intro ⟨_, _, rfl, rfl, fun i hi => rfl⟩ (And.intro trivial (And.intro ⟨_, _, rfl, rfl, fun i hi => rfl⟩ (And.intro trivial trivial)))))))
  all_goals repeat' (first | exact rfl | exact trivial | refine And.intro ?_ ?_)
end Go.Proofs.Ytpmbbanoiipepaa

/- Contract of run's instr. Condition: a checked function. -/
namespace Go.Proofs.Ytpmbbanoiipepaa
open Go Go.Abs Go.RowKit Go.Abs.Gra

/-- What the first j operands of an instruction read. -/
def readF (g : Nat → Int) (x : Ins) (j : Nat) : List Int := ((x.Operands.take j).filter fun o => o.Kind == 1).map fun o => g o.Value.toNat
theorem readF_hit {g : Nat → Int} {x : Ins} {j : Nat} (hj : j < x.Operands.length) (h : ((x.Operands.getD j default).Kind == 1) = true) : readF g x (j + 1) = readF g x j ++ [g (x.Operands.getD j default).Value.toNat] := by
  unfold readF; rw [take_succ_getD hj, List.filter_append, List.map_append]; simp only [List.filter_cons, h, if_true, List.filter_nil, List.map_cons, List.map_nil]
theorem readF_miss {g : Nat → Int} {x : Ins} {j : Nat} (hj : j < x.Operands.length) (h : ((x.Operands.getD j default).Kind == 1) = false) : readF g x (j + 1) = readF g x j := by
  unfold readF; rw [take_succ_getD hj, List.filter_append, List.map_append, List.filter_cons, if_neg (by rw [h]; decide)]; simp
theorem readF_len {g : Nat → Int} {x : Ins} {j : Nat} : (readF g x j).length ≤ x.Operands.length := by
  unfold readF
  rw [List.length_map]
  exact Nat.le_trans (List.length_filter_le _ _) (by rw [List.length_take]; exact Nat.min_le_right _ _)
/-- Values behind the first j operands of an instruction. -/
def dfF (seed : Int) (x : Ins) (rd : List Int) (g : Nat → Int) : Nat → Nat → Int
  | 0 => g
  | j + 1 => fun i => if (x.Operands.getD j default).Kind = 2 ∧ i = (x.Operands.getD j default).Value.toNat then mixF (seed :: x.Op :: (j : Int) :: rd) else dfF seed x rd g j i
theorem snocI_row {l : List Int} {v : Int} {i : Nat} (hi : i < l.length + 1) : intC ((l ++ [v]).getD i default) = if i < l.length then intC (l.getD i default) else ([[AV.val (Value.int IntKind.i64 v)]].getD (i - l.length) []) := by
  by_cases h : i < l.length
  · rw [if_pos h, List.getD_eq_getElem?_getD, List.getD_eq_getElem?_getD, List.getElem?_append_left h]
  · have e : i = l.length := by omega
    subst e
    rw [if_neg h, Nat.sub_self, List.getD_eq_getElem?_getD]; simp
theorem snocE_row {l : List Evt} {v : Evt} {i : Nat} (hi : i < l.length + 1) : evtC ((l ++ [v]).getD i default) = if i < l.length then evtC (l.getD i default) else ([evtC v].getD (i - l.length) []) := by
  by_cases h : i < l.length
  · rw [if_pos h, List.getD_eq_getElem?_getD, List.getD_eq_getElem?_getD, List.getElem?_append_left h]
  · have e : i = l.length := by omega
    subst e
    rw [if_neg h, Nat.sub_self, List.getD_eq_getElem?_getD]; simp
@[reducible] def insAt (f : Fun) (b a : Nat) : Ins := (f.Blocks.getD b default).Instrs.getD a default
@[reducible] def rdAt (f : Fun) (g : Nat → Int) (b a : Nat) : List Int := readF g (insAt f b a) (insAt f b a).Operands.length
@[reducible] def evAt (f : Fun) (seed : Int) (g : Nat → Int) (b a : Nat) : Evt := ⟨b, a, rdAt f g b a, takesF seed (f.Blocks.getD b default) a (rdAt f g b a)⟩
@[reducible] def dfAt (f : Fun) (seed : Int) (g : Nat → Int) (b a : Nat) : Nat → Int := dfF seed (insAt f b a) (rdAt f g b a) g (insAt f b a).Operands.length
set_option maxHeartbeats 2000000 in
theorem m_instr (f : Fun) (hC : Chkd f) (seed left : Int) (g : Nat → Int) (L : List Evt) (hL : L.length ≤ 100000) (b a : Nat) (hb : b < f.Blocks.length) (ha : a < (f.Blocks.getD b default).Instrs.length) :
    ACallM B.P 65 ⟨[.obj 1001 0, .i64 b, .i64 a], [(1001, rnrC f seed left 1002 1003 L.length), (1002, rowG f.Values.length g), (1003, rowE L)], .i64 (takesF seed (f.Blocks.getD b default) a (rdAt f g b a)), [(1001, rnrC f seed left 1002 101 (L.length + 1)), (1002, rowG f.Values.length (dfAt f seed g b a)), (101, rowE (L ++ [evAt f seed g b a]))]⟩ := by
  have hz := hC.e.siz
  have hop : (insAt f b a).Operands.length ≤ 6 := hz.ops b a hb ha
  have hol : (insAt f b a).Operands.length ≤ maxLen := by unfold maxLen; omega
  have hrl : (rdAt f g b a).length ≤ (insAt f b a).Operands.length := readF_len
  have hLl : (L ++ [evAt f seed g b a]).length = L.length + 1 := by simp
  refine ACallM.enter B _ _ Try.func65 rfl rfl Try.ntmps65 Try.results65 rfl ?_ fun hreal => ?_
  · refine And.intro ?_ (And.intro ?_ ?_)
    all_goals repeat' (first | exact rfl | exact trivial | refine And.intro ?_ ?_)
  clear hreal
  repeat (first | refine AWp.seq ?_ | refine AWp.block ?_ | refine AWp.skip ?_)
  refine AWp.region ?_
  intro _
  repeat (first | refine AWp.seq ?_ | refine AWp.block ?_ | refine AWp.skip ?_)
  refine AWp.region ?_
  refine And.intro (fun _ => And.intro (Int.natCast_nonneg _) (Int.ofNat_lt.2 hb)) ?_
  refine And.intro (fun _ => And.intro (Int.natCast_nonneg _) (Int.ofNat_lt.2 ha)) ?_
  intro _
  refine AWp.freezeObj 7 rfl rfl ?_
  repeat (first | refine AWp.seq ?_ | refine AWp.block ?_ | refine AWp.skip ?_)
  refine AWp.region ?_
  intro _
  repeat (first | refine AWp.seq ?_ | refine AWp.block ?_ | refine AWp.skip ?_)
  refine AWp.region ?_
  intro _
  refine AWp.adopt 8 60 3 1 rfl rfl rfl ?_
  repeat (first | refine AWp.seq ?_ | refine AWp.block ?_ | refine AWp.skip ?_)
  refine AWp.loop (fun i : Nat => ⟨[(0, .obj 1001 0), (1, .i64 b), (2, .i64 a), (7, .ptr (insAt f b a).cells), (8, .sl 60 (readF g (insAt f b a) i).length), (27, roL 5 Opd.cells (insAt f b a).Operands), (28, .i64 (insAt f b a).Operands.length), (29, .i64 i)], [(1001, rnrC f seed left 1002 1003 L.length), (1002, rowG f.Values.length g), (1003, rowE L), (60, rowG (readF g (insAt f b a) i).length (fun q => (readF g (insAt f b a) i).getD q default))]⟩) (fun i => i ≤ (insAt f b a).Operands.length) (fun i => (insAt f b a).Operands.length - i) 0 (Nat.zero_le _) ?_ ?_
  · refine And.intro ?_ (And.intro rfl (And.intro ?_ (And.intro ⟨_, _, rfl, rfl, fun i hi => rfl⟩ (And.intro trivial (And.intro ⟨_, _, rfl, rfl, fun i hi => rfl⟩ (And.intro trivial (And.intro ⟨_, _, rfl, rfl, fun i hi => absurd hi (Nat.not_lt_zero _)⟩ (And.intro trivial trivial))))))))
    all_goals repeat' (first | exact rfl | exact trivial | refine And.intro ?_ ?_)
  intro i hi
  have hri := readF_len (g := g) (x := insAt f b a) (j := i)
  repeat (first | refine AWp.seq ?_ | refine AWp.block ?_ | refine AWp.skip ?_)
  refine AWp.region ?_
  intro _
  repeat (first | refine AWp.seq ?_ | refine AWp.block ?_ | refine AWp.skip ?_)
  refine AWp.cond (And.intro (fun h1 => ?_) (fun h1 => ?_))
  · have hi' : i < (insAt f b a).Operands.length := Int.ofNat_lt.1 (of_decide_eq_true h1)
    have hr : 0 ≤ ((insAt f b a).Operands.getD i default).Value ∧ ((insAt f b a).Operands.getD i default).Value < f.Values.length := idx_ok (hC.opv b a i hb ha hi')
    have hrn : ((insAt f b a).Operands.getD i default).Value.toNat < f.Values.length := by omega
    repeat (first | refine AWp.seq ?_ | refine AWp.block ?_ | refine AWp.skip ?_)
    refine AWp.region ?_
    refine And.intro (fun _ => And.intro (Int.natCast_nonneg _) (Int.ofNat_lt.2 hi')) ?_
    intro _
    refine AWp.freezeObj 10 rfl rfl ?_
    repeat (first | refine AWp.seq ?_ | refine AWp.block ?_ | refine AWp.skip ?_)
    refine AWp.region ?_
    intro _
    repeat (first | refine AWp.seq ?_ | refine AWp.block ?_ | refine AWp.skip ?_)
    refine AWp.cond (And.intro (fun hd => ?_) (fun hd => ?_))
    · have hS := readF_hit (g := g) hi' hd
      have hSl : (readF g (insAt f b a) (i + 1)).length = (readF g (insAt f b a) i).length + 1 := by rw [hS]; simp
      repeat (first | refine AWp.seq ?_ | refine AWp.block ?_ | refine AWp.skip ?_)
      refine AWp.quietFirst (.q 0 (.q 1 (.q 5 (.q 6 (.c 2 false (.c 3 false (.c 4 false (.c 7 false (.c 8 false (.c 9 false (.c 10 true (.q 11 .fin) .no) .no) .no) .no) .no) .no) .no))))) [0, 1, 5, 6, 11] [] mixed (by kernel_rfl) ?_
      repeat' (first | exact trivial | refine And.intro ?_ ?_)
      all_goals first | exact fun _ => hr | exact fun _ => hrn | exact rfl | exact Nat.le_refl _ | (intro i hi; have e : i = 0 := (by omega); subst e; rfl) | omega | skip
      intro _
      refine AWp.rename 46 60 rfl rfl ?_
      repeat (first | refine AWp.seq ?_ | refine AWp.block ?_ | refine AWp.skip ?_)
      refine AWp.region ?_
      intro _
      refine round_end (i + 1) hi' ?_ (by omega)
      refine And.intro ?_ (And.intro rfl (And.intro ?_ (And.intro ⟨_, _, rfl, rfl, fun i hi => rfl⟩ (And.intro trivial (And.intro ⟨_, _, rfl, rfl, fun i hi => rfl⟩ (And.intro trivial (And.intro ⟨_, _, rfl, hSl.symm, fun q hq => ?_⟩ (And.intro trivial trivial))))))))
      · repeat' (first | exact rfl | exact trivial | exact congrArg (fun n => some (AV.sl 60 n)) hSl.symm | exact congrArg (fun z => some (AV.i64 z)) (wrap_succ hi' hol) | refine And.intro ?_ ?_)
      · repeat' (first | exact rfl | exact trivial | refine And.intro ?_ ?_)
      · rw [hSl] at hq
        rw [hS]
        exact snocI_row hq
    · have hS := readF_miss (g := g) hi' hd
      repeat (first | refine AWp.seq ?_ | refine AWp.block ?_ | refine AWp.skip ?_)
      refine AWp.region ?_
      intro _
      refine round_end (i + 1) hi' ?_ (by omega)
      rw [hS]
      refine And.intro ?_ (And.intro rfl (And.intro ?_ (And.intro ⟨_, _, rfl, rfl, fun i hi => rfl⟩ (And.intro trivial (And.intro ⟨_, _, rfl, rfl, fun i hi => rfl⟩ (And.intro trivial (And.intro ⟨_, _, rfl, rfl, fun q hq => rfl⟩ (And.intro trivial trivial))))))))
      all_goals repeat' (first | exact rfl | exact trivial | exact congrArg (fun z => some (AV.i64 z)) (wrap_succ hi' hol) | refine And.intro ?_ ?_)
  have hi3 : ¬ (i : Int) < (insAt f b a).Operands.length := of_decide_eq_false h1
  obtain rfl : i = (insAt f b a).Operands.length := by omega
  clear hi hi3 h1 hri
  refine AWp.exit ?_
  refine AWp.freeze 60 (fun q => intC ((rdAt f g b a).getD q default)) rfl (fun i hi => rfl) ?_
  repeat (first | refine AWp.seq ?_ | refine AWp.block ?_ | refine AWp.skip ?_)
  refine AWp.region ?_
  intro _
  repeat (first | refine AWp.seq ?_ | refine AWp.block ?_ | refine AWp.skip ?_)
  refine AWp.loop (fun k : Nat => ⟨[(0, .obj 1001 0), (1, .i64 b), (2, .i64 a), (7, .ptr (insAt f b a).cells), (8, ints (rdAt f g b a)), (49, roL 5 Opd.cells (insAt f b a).Operands), (50, .i64 (insAt f b a).Operands.length), (51, .i64 k)], [(1001, rnrC f seed left 1002 1003 L.length), (1002, rowG f.Values.length (dfF seed (insAt f b a) (rdAt f g b a) g k)), (1003, rowE L)]⟩) (fun k => k ≤ (insAt f b a).Operands.length) (fun k => (insAt f b a).Operands.length - k) 0 (Nat.zero_le _) ?_ ?_
  · refine And.intro ?_ (And.intro rfl (And.intro ?_ (And.intro ⟨_, _, rfl, rfl, fun i hi => rfl⟩ (And.intro trivial (And.intro ⟨_, _, rfl, rfl, fun i hi => rfl⟩ (And.intro trivial trivial))))))
    all_goals repeat' (first | exact rfl | exact trivial | refine And.intro ?_ ?_)
  intro k hk
  repeat (first | refine AWp.seq ?_ | refine AWp.block ?_ | refine AWp.skip ?_)
  refine AWp.region ?_
  intro _
  repeat (first | refine AWp.seq ?_ | refine AWp.block ?_ | refine AWp.skip ?_)
  refine AWp.cond (And.intro (fun h2 => ?_) (fun h2 => ?_))
  · have hk' : k < (insAt f b a).Operands.length := Int.ofNat_lt.1 (of_decide_eq_true h2)
    have hr : 0 ≤ ((insAt f b a).Operands.getD k default).Value ∧ ((insAt f b a).Operands.getD k default).Value < f.Values.length := idx_ok (hC.opv b a k hb ha hk')
    have hrn : ((insAt f b a).Operands.getD k default).Value.toNat < f.Values.length := by omega
    have hcm := c_Made seed k (insAt f b a) (rdAt f g b a) (by omega)
    repeat (first | refine AWp.seq ?_ | refine AWp.block ?_ | refine AWp.skip ?_)
    refine AWp.region ?_
    refine And.intro (fun _ => And.intro (Int.natCast_nonneg _) (Int.ofNat_lt.2 hk')) ?_
    intro _
    refine AWp.freezeObj 12 rfl rfl ?_
    repeat (first | refine AWp.seq ?_ | refine AWp.block ?_ | refine AWp.skip ?_)
    refine AWp.region ?_
    intro _
    repeat (first | refine AWp.seq ?_ | refine AWp.block ?_ | refine AWp.skip ?_)
    refine AWp.cond (And.intro (fun hd => ?_) (fun hd => ?_))
    · have hd2 : ((insAt f b a).Operands.getD k default).Kind = 2 := by simpa using hd
      repeat (first | refine AWp.seq ?_ | refine AWp.block ?_ | refine AWp.skip ?_)
      refine AWp.quietFirst (.q 0 (.q 1 (.q 2 (.q 3 (.q 4 (.q 5 (.q 6 (.q 7 (.q 8 (.q 9 (.q 10 (.q 11 (.q 12 (.c 13 false (.q 14 (.c 15 true .fin .no)) .no)))))))))))))) [0, 1, 2, 3, 4, 5, 6, 7, 8, 9, 10, 11, 12, 14] [1001, 1002, 1003] mixed (by kernel_rfl) ?_
      repeat' (first | exact trivial | refine And.intro ?_ ?_ | refine CallX.pure hcm rfl rfl rfl ?_)
      all_goals first | exact fun _ => hr | exact fun _ => hrn | exact hrn | exact rfl | skip
      intro _
      repeat (first | refine AWp.seq ?_ | refine AWp.block ?_ | refine AWp.skip ?_)
      refine AWp.region ?_
      intro _
      refine round_end (k + 1) hk' ?_ (by omega)
      refine And.intro ?_ (And.intro rfl (And.intro ?_ (And.intro ⟨_, _, rfl, rfl, fun i hi => ?_⟩ (And.intro trivial (And.intro ⟨_, _, rfl, rfl, fun i hi => rfl⟩ (And.intro trivial trivial))))))
      · repeat' (first | exact rfl | exact trivial | exact congrArg (fun z => some (AV.i64 z)) (wrap_succ hk' hol) | refine And.intro ?_ ?_)
      · repeat' (first | exact rfl | exact trivial | refine And.intro ?_ ?_)
      · show intC (if ((insAt f b a).Operands.getD k default).Kind = 2 ∧ i = ((insAt f b a).Operands.getD k default).Value.toNat then mixF (seed :: (insAt f b a).Op :: (k : Int) :: rdAt f g b a) else dfF seed (insAt f b a) (rdAt f g b a) g k i) = if i = ((insAt f b a).Operands.getD k default).Value.toNat then intC (mixF (seed :: (insAt f b a).Op :: (k : Int) :: rdAt f g b a)) else intC (dfF seed (insAt f b a) (rdAt f g b a) g k i)
        by_cases e : i = ((insAt f b a).Operands.getD k default).Value.toNat
        · rw [if_pos ⟨hd2, e⟩, if_pos e]
        · rw [if_neg fun h => e h.2, if_neg e]
    · have hd2 : ¬ ((insAt f b a).Operands.getD k default).Kind = 2 := by simpa using hd
      repeat (first | refine AWp.seq ?_ | refine AWp.block ?_ | refine AWp.skip ?_)
      refine AWp.region ?_
      intro _
      refine round_end (k + 1) hk' ?_ (by omega)
      refine And.intro ?_ (And.intro rfl (And.intro ?_ (And.intro ⟨_, _, rfl, rfl, fun i hi => ?_⟩ (And.intro trivial (And.intro ⟨_, _, rfl, rfl, fun i hi => rfl⟩ (And.intro trivial trivial))))))
      · repeat' (first | exact rfl | exact trivial | exact congrArg (fun z => some (AV.i64 z)) (wrap_succ hk' hol) | refine And.intro ?_ ?_)
      · repeat' (first | exact rfl | exact trivial | refine And.intro ?_ ?_)
      · show intC (if ((insAt f b a).Operands.getD k default).Kind = 2 ∧ i = ((insAt f b a).Operands.getD k default).Value.toNat then mixF (seed :: (insAt f b a).Op :: (k : Int) :: rdAt f g b a) else dfF seed (insAt f b a) (rdAt f g b a) g k i) = intC (dfF seed (insAt f b a) (rdAt f g b a) g k i)
        rw [if_neg fun h => hd2 h.1]
  have hk3 : ¬ (k : Int) < (insAt f b a).Operands.length := of_decide_eq_false h2
  obtain rfl : k = (insAt f b a).Operands.length := by omega
  refine AWp.exit ?_
  repeat (first | refine AWp.seq ?_ | refine AWp.block ?_ | refine AWp.skip ?_)
  refine AWp.quietFirst (.q 0 (.q 1 (.q 2 (.q 3 (.q 4 (.q 5 (.q 6 (.q 7 (.q 8 (.q 9 (.q 10 (.q 11 (.q 12 (.q 13 (.c 14 true (.q 15 .fin) .no))))))))))))))) [0, 1, 2, 3, 4, 5, 6, 7, 8, 9, 10, 11, 12, 13, 15] [1001, 1002, 1003] mixed (by kernel_rfl) ?_
  refine And.intro (fun _ => And.intro (Int.natCast_nonneg _) (Int.ofNat_lt.2 hb)) ?_
  refine And.intro (CallX.pure (c_Takes seed a (f.Blocks.getD b default) (rdAt f g b a) (by omega)) rfl rfl rfl ?_) trivial
  intro _
  repeat (first | refine AWp.seq ?_ | refine AWp.block ?_ | refine AWp.skip ?_)
  refine AWp.region ?_
  refine And.intro (Nat.le_refl _) (And.intro (fun i hi => ?_) (And.intro rfl (And.intro (by omega) ?_)))
  · have e : i = 0 := by omega
    subst e; rfl
  intro _
  repeat (first | refine AWp.seq ?_ | refine AWp.block ?_ | refine AWp.skip ?_)
  refine AWp.region ?_
  intro _
  refine AWp.ret ⟨Or.inl rfl, ?_⟩
  intro _
  refine And.intro rfl (And.intro trivial (And.intro rfl (And.intro ?_ (And.intro ⟨_, _, rfl, rfl, fun i hi => rfl⟩ (And.intro trivial (And.intro ⟨_, _, rfl, hLl.symm, fun i hi => ?_⟩ (And.intro trivial trivial)))))))
  · repeat' (first | exact rfl | exact trivial | refine And.intro ?_ ?_)
  · rw [hLl] at hi
    exact snocE_row hi
end Go.Proofs.Ytpmbbanoiipepaa

/- Plain: what a function does, step by step. Condition: none. -/
namespace Go.Proofs.Ytpmbbanoiipepaa
open Go Go.Abs Go.RowKit Go.Abs.Gra

theorem chkd_args {f : Fun} {m : Mch} (h : chkF f m = 0) {k j : Nat} (hk : k < f.Blocks.length) (hj : j < (f.Blocks.getD k default).Edges.length) :
    ((f.Blocks.getD k default).Edges.getD j default).Args.length = (f.Blocks.getD ((f.Blocks.getD k default).Edges.getD j default).Block.toNat default).Params.length := by
  obtain ⟨h1, h2, h3, h4, h5⟩ := chkF_zero h
  exact (edgF_zero (firstF_zero (blkF_zero (firstF_zero h4 k hk)).2 j hj)).2.1
/-- So many steps from the p'th place of a block on (0: its entry). -/
def srcF (f : Fun) (seed : Int) : Nat → Nat → Nat → (Nat → Int) → List Evt → List Evt
  | 0, _, _, _, L => L
  | k + 1, b, 0, g, L =>
    if 0 < (f.Blocks.getD b default).Instrs.length then srcF f seed k b 1 g L
    else if (f.Blocks.getD b default).Edges.length = 0 then L
    else srcF f seed k ((f.Blocks.getD b default).Edges.getD 0 default).Block.toNat 0 (folF g ((f.Blocks.getD b default).Edges.getD 0 default).Args (f.Blocks.getD ((f.Blocks.getD b default).Edges.getD 0 default).Block.toNat default).Params (f.Blocks.getD ((f.Blocks.getD b default).Edges.getD 0 default).Block.toNat default).Params.length) L
  | k + 1, b, p + 1, g, L =>
    if p + 1 < (f.Blocks.getD b default).Instrs.length then srcF f seed k b (p + 2) (dfAt f seed g b p) (L ++ [evAt f seed g b p])
    else if (f.Blocks.getD b default).Edges.length = 0 then L ++ [evAt f seed g b p]
    else srcF f seed k ((f.Blocks.getD b default).Edges.getD (evAt f seed g b p).edge.toNat default).Block.toNat 0 (folF (dfAt f seed g b p) ((f.Blocks.getD b default).Edges.getD (evAt f seed g b p).edge.toNat default).Args (f.Blocks.getD ((f.Blocks.getD b default).Edges.getD (evAt f seed g b p).edge.toNat default).Block.toNat default).Params (f.Blocks.getD ((f.Blocks.getD b default).Edges.getD (evAt f seed g b p).edge.toNat default).Block.toNat default).Params.length) (L ++ [evAt f seed g b p])
/-- Along an edge, and so many steps on. -/
def conF (f : Fun) (seed : Int) (k b : Nat) (ed : Int) (g : Nat → Int) (L : List Evt) : List Evt :=
  if (f.Blocks.getD b default).Edges.length = 0 then L
  else srcF f seed k ((f.Blocks.getD b default).Edges.getD ed.toNat default).Block.toNat 0 (folF g ((f.Blocks.getD b default).Edges.getD ed.toNat default).Args (f.Blocks.getD ((f.Blocks.getD b default).Edges.getD ed.toNat default).Block.toNat default).Params (f.Blocks.getD ((f.Blocks.getD b default).Edges.getD ed.toNat default).Block.toNat default).Params.length) L
theorem srcF_zero {f : Fun} {seed : Int} {b p : Nat} {g : Nat → Int} {L : List Evt} : srcF f seed 0 b p g L = L := by cases p <;> rfl
theorem srcF_in {f : Fun} {seed : Int} {k b : Nat} {g : Nat → Int} {L : List Evt} : srcF f seed (k + 1) b 0 g L = if 0 < (f.Blocks.getD b default).Instrs.length then srcF f seed k b 1 g L else conF f seed k b 0 g L := by
  rw [srcF]; rfl
theorem srcF_at {f : Fun} {seed : Int} {k b p : Nat} {g : Nat → Int} {L : List Evt} : srcF f seed (k + 1) b (p + 1) g L = if p + 1 < (f.Blocks.getD b default).Instrs.length then srcF f seed k b (p + 2) (dfAt f seed g b p) (L ++ [evAt f seed g b p]) else conF f seed k b (evAt f seed g b p).edge (dfAt f seed g b p) (L ++ [evAt f seed g b p]) := by
  rw [srcF]; rfl
theorem takes_lt {seed : Int} {b : Blk} {p : Nat} {l : List Int} (hp : p + 1 = b.Instrs.length) (he : 0 < b.Edges.length) : 0 ≤ takesF seed b p l ∧ takesF seed b p l < b.Edges.length := by
  unfold takesF
  rw [if_neg (by omega)]
  split
  · omega
  · have hm := mixF_range (seed :: (b.Instrs.getD ((p : Int)).toNat default).Op :: -1 :: l)
    have hpos : (0 : Int) < b.Edges.length := by omega
    refine ⟨Int.tmod_nonneg _ hm.1, ?_⟩
    rw [Int.tmod_eq_emod_of_nonneg hm.1]
    exact Int.emod_lt_of_pos _ hpos
end Go.Proofs.Ytpmbbanoiipepaa

/- Contract of the law's sameEvents at equal arguments. Condition: lengths. -/
namespace Go.Proofs.Ytpmbbanoiipepaa
open Go Go.Abs Go.RowKit Go.Abs.Gra

@[reducible] def evtV (L : List Evt) : AV := .ro 4 L.length (fun i => evtC (L.getD i default))
set_option maxHeartbeats 1000000 in
theorem c_sameEvents (L : List Evt) (hL : L.length ≤ maxLen) (hr : ∀ i, i < L.length → (L.getD i default).read.length ≤ maxLen) : ACallIs B.P 23 [evtV L, evtV L] (.bool true) := by
  refine ACallIs.enter B _ _ Try.func23 rfl rfl Try.ntmps23 Try.results23 rfl fun hreal => ?_
  clear hreal
  repeat (first | refine AWp.seq ?_ | refine AWp.block ?_ | refine AWp.skip ?_)
  refine AWp.region ?_
  intro _
  repeat (first | refine AWp.seq ?_ | refine AWp.block ?_ | refine AWp.skip ?_)
  refine AWp.region ?_
  intro _
  repeat (first | refine AWp.seq ?_ | refine AWp.block ?_ | refine AWp.skip ?_)
  refine AWp.cond (And.intro (fun h => ?_) (fun h => ?_))
  · exfalso
    have h : ((L.length : Int) != (L.length : Int)) = true := h
    simp at h
  repeat (first | refine AWp.seq ?_ | refine AWp.block ?_ | refine AWp.skip ?_)
  refine AWp.region ?_
  intro _
  repeat (first | refine AWp.seq ?_ | refine AWp.block ?_ | refine AWp.skip ?_)
  refine AWp.loop (fun k : Nat => ⟨[(0, evtV L), (1, evtV L), (5, .i64 k)], []⟩) (fun k => k ≤ L.length) (fun k => L.length - k) 0 (Nat.zero_le _) ?_ ?_
  · repeat' (first | exact rfl | exact trivial | refine And.intro ?_ ?_)
  intro k hk
  repeat (first | refine AWp.seq ?_ | refine AWp.block ?_ | refine AWp.skip ?_)
  refine AWp.region ?_
  intro _
  repeat (first | refine AWp.seq ?_ | refine AWp.block ?_ | refine AWp.skip ?_)
  refine AWp.cond (And.intro (fun h1 => ?_) (fun h1 => ?_))
  · have hk' : k < L.length := Int.ofNat_lt.1 (of_decide_eq_true h1)
    have hs := c_sameR (L.getD k default).read.length (fun i => (L.getD k default).read.getD i default) (hr k hk')
    repeat (first | refine AWp.seq ?_ | refine AWp.block ?_ | refine AWp.skip ?_)
    refine AWp.draw mixed (by kernel_rfl) ?_
    repeat' (first | refine And.intro ?_ ?_ | refine CallK.intro (fun _ => hs) ?_)
    all_goals first | exact fun h => h | exact gT | exact gF | exact gN | exact (fun _ => And.intro (Int.natCast_nonneg _) (Int.ofNat_lt.2 hk')) | skip
    intro _
    repeat (first | refine AWp.seq ?_ | refine AWp.block ?_ | refine AWp.skip ?_)
    refine AWp.cond (And.intro (fun h2 => ?_) (fun h2 => ?_))
    · exfalso
      simp at h2
    repeat (first | refine AWp.seq ?_ | refine AWp.block ?_ | refine AWp.skip ?_)
    refine AWp.region ?_
    intro _
    exact round_end (k + 1) hk' (by repeat' (first | exact rfl | exact trivial | exact congrArg (fun z => some (AV.i64 z)) (wrap_succ hk' hL) | refine And.intro ?_ ?_)) (by omega)
  refine AWp.exit ?_
  repeat (first | refine AWp.seq ?_ | refine AWp.block ?_ | refine AWp.skip ?_)
  refine AWp.region ?_
  intro _
  refine AWp.ret ⟨Or.inl rfl, rfl, ?_⟩
  intro _
  rfl
end Go.Proofs.Ytpmbbanoiipepaa
