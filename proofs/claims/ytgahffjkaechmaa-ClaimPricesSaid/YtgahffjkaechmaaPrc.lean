/- Prices of values: claim.Prices and the document's PricesOf. Condition: what the function's slices may weigh. -/
import Derived.Test.YtgahffjkaechmaaDom
set_option linter.unusedVariables false
set_option linter.unusedSimpArgs false
/- Contracts of claim.price and claim.Prices. Condition: a checked function. -/
namespace Go.Proofs.Ytgahffjkaechmaa
open Go Go.Abs Go.RowKit Go.Abs.Gra

def prcT : Nat → Int
  | 0 => 1
  | 1 => 8
  | 2 => 64
  | 3 => 512
  | _ => 4096
theorem c_price (x : Nat) (hx : x ≤ 16) : ACallIs B.P 73 [.i64 x] (.i64 (prcT x)) := by
  have hm : (min (x : Int) 4) = ((min x 4 : Nat) : Int) := by omega
  have hml : min x 4 ≤ maxLen := by unfold maxLen; omega
  refine ACallIs.enter B _ _ Try.func73 rfl rfl Try.ntmps73 Try.results73 rfl fun hreal => ?_
  clear hreal
  repeat (first | refine AWp.seq ?_ | refine AWp.block ?_ | refine AWp.skip ?_)
  refine AWp.region ?_
  intro _
  repeat (first | refine AWp.seq ?_ | refine AWp.block ?_ | refine AWp.skip ?_)
  refine AWp.region ?_
  intro _
  repeat (first | refine AWp.seq ?_ | refine AWp.block ?_ | refine AWp.skip ?_)
  refine AWp.region ?_
  intro _
  repeat (first | refine AWp.seq ?_ | refine AWp.block ?_ | refine AWp.skip ?_)
  refine AWp.loop (fun k : Nat => ⟨[(3, .i64 (prcT k)), (5, .i64 (min x 4 : Nat)), (6, .i64 k)], []⟩) (fun k => k ≤ min x 4) (fun k => min x 4 - k) 0 (Nat.zero_le _) ?_ ?_
  · repeat' (first | exact rfl | exact trivial | refine And.intro ?_ ?_)
    all_goals first | exact congrArg (fun z => some (AV.i64 z)) hm | (show some (AV.i64 (if (x : Int) ≤ 4 then (x : Int) else 4)) = _; refine congrArg (fun z => some (AV.i64 z)) ?_; split <;> omega) | (show some (AV.i64 (bif decide ((x : Int) ≤ 4) then (x : Int) else 4)) = _; refine congrArg (fun z => some (AV.i64 z)) ?_; cases hq : decide ((x : Int) ≤ 4) <;> simp at hq <;> simp <;> omega)
  intro k hk
  repeat (first | refine AWp.seq ?_ | refine AWp.block ?_ | refine AWp.skip ?_)
  refine AWp.region ?_
  intro _
  repeat (first | refine AWp.seq ?_ | refine AWp.block ?_ | refine AWp.skip ?_)
  refine AWp.cond (And.intro (fun h => ?_) (fun h => ?_))
  · have hk' : k < min x 4 := Int.ofNat_lt.1 (of_decide_eq_true h)
    have hw : IntKind.i64.wrap (prcT k * 8) = prcT (k + 1) := by
      have : k = 0 ∨ k = 1 ∨ k = 2 ∨ k = 3 := by omega
      rcases this with rfl | rfl | rfl | rfl <;> rfl
    repeat (first | refine AWp.seq ?_ | refine AWp.block ?_ | refine AWp.skip ?_)
    refine AWp.region ?_
    intro _
    repeat (first | refine AWp.seq ?_ | refine AWp.block ?_ | refine AWp.skip ?_)
    refine AWp.region ?_
    intro _
    exact round_end (k + 1) hk' (by repeat' (first | exact rfl | exact trivial | exact congrArg (fun z => some (AV.i64 z)) hw | exact congrArg (fun z => some (AV.i64 z)) (wrap_succ hk' hml) | refine And.intro ?_ ?_)) (by omega)
  have hk3 : ¬ (k : Int) < ((min x 4 : Nat) : Int) := of_decide_eq_false h
  refine AWp.exit ?_
  repeat (first | refine AWp.seq ?_ | refine AWp.block ?_ | refine AWp.skip ?_)
  refine AWp.region ?_
  intro _
  refine AWp.ret ⟨Or.inl rfl, rfl, ?_⟩
  intro _
  refine tupI ?_
  have hke : k = min x 4 := by omega
  have : x = 0 ∨ x = 1 ∨ x = 2 ∨ x = 3 ∨ 4 ≤ x := by omega
  rcases this with rfl | rfl | rfl | rfl | h4
  · subst hke; rfl
  · subst hke; rfl
  · subst hke; rfl
  · subst hke; rfl
  · have : k = 4 := by omega
    subst this
    obtain ⟨t, rfl⟩ : ∃ t, x = t + 4 := ⟨x - 4, by omega⟩
    rfl
/-- What is added to which value, in its order. -/
def ocA (p : Int) (l : List Int) (j : Nat) : List (Int × Int) := (l.take j).map fun v => (v, p)
def ocO (p : Int) (l : List Opd) (j : Nat) : List (Int × Int) := (l.take j).map fun o => (o.Value, p)
def ocI (p : Int) (b : Blk) (i : Nat) : List (Int × Int) := (List.range i).flatMap fun i => ocO p (b.Instrs.getD i default).Operands (b.Instrs.getD i default).Operands.length
def ocE (p : Int) (b : Blk) (j : Nat) : List (Int × Int) := (List.range j).flatMap fun j => ocA p (b.Edges.getD j default).Args (b.Edges.getD j default).Args.length
noncomputable def dpF (f : Fun) (k : Nat) : Int := prcT (depF (scF f) f.Blocks.length f.Blocks.length k)
noncomputable def ocB (f : Fun) (k : Nat) : List (Int × Int) := (List.range k).flatMap fun k => (ocA (dpF f k) (f.Blocks.getD k default).Params (f.Blocks.getD k default).Params.length ++ ocI (dpF f k) (f.Blocks.getD k default) (f.Blocks.getD k default).Instrs.length) ++ ocE (dpF f k) (f.Blocks.getD k default) (f.Blocks.getD k default).Edges.length
theorem ocA_succ {p : Int} {l : List Int} {j : Nat} (hj : j < l.length) : ocA p l (j + 1) = ocA p l j ++ [(l.getD j default, p)] := by
  unfold ocA; rw [take_succ_getD hj, List.map_append]; rfl
theorem ocO_succ {p : Int} {l : List Opd} {j : Nat} (hj : j < l.length) : ocO p l (j + 1) = ocO p l j ++ [((l.getD j default).Value, p)] := by
  unfold ocO; rw [take_succ_getD hj, List.map_append]; rfl
theorem ocI_succ {p : Int} {b : Blk} {i : Nat} : ocI p b (i + 1) = ocI p b i ++ ocO p (b.Instrs.getD i default).Operands (b.Instrs.getD i default).Operands.length := by
  unfold ocI; rw [List.range_succ, List.flatMap_append]; simp
theorem ocE_succ {p : Int} {b : Blk} {i : Nat} : ocE p b (i + 1) = ocE p b i ++ ocA p (b.Edges.getD i default).Args (b.Edges.getD i default).Args.length := by
  unfold ocE; rw [List.range_succ, List.flatMap_append]; simp
theorem ocB_succ {f : Fun} {k : Nat} : ocB f (k + 1) = ocB f k ++ ocA (dpF f k) (f.Blocks.getD k default).Params (f.Blocks.getD k default).Params.length ++ ocI (dpF f k) (f.Blocks.getD k default) (f.Blocks.getD k default).Instrs.length ++ ocE (dpF f k) (f.Blocks.getD k default) (f.Blocks.getD k default).Edges.length := by
  unfold ocB; rw [List.range_succ, List.flatMap_append]; simp [List.append_assoc]
theorem ocA_nil {p : Int} {l : List Int} {L : List (Int × Int)} : L ++ ocA p l 0 = L := by simp [ocA]
theorem ocO_nil {p : Int} {l : List Opd} {L : List (Int × Int)} : L ++ ocO p l 0 = L := by simp [ocO]
theorem ocI_nil {p : Int} {b : Blk} {L : List (Int × Int)} : L ++ ocI p b 0 = L := by simp [ocI]
theorem ocE_nil {p : Int} {b : Blk} {L : List (Int × Int)} : L ++ ocE p b 0 = L := by simp [ocE]
theorem ocB_nil {f : Fun} : ocB f 0 = [] := rfl
/-- The sums so far. -/
def prR (L : List (Int × Int)) : Nat → Int := L.foldl (fun o x i => if i = x.1.toNat then IntKind.i64.wrap (o i + x.2) else o i) fun _ => 0
theorem prR_snoc {L : List (Int × Int)} {v p : Int} {i : Nat} : intC (prR (L ++ [(v, p)]) i) = if i = v.toNat then intC (IntKind.i64.wrap (prR L v.toNat + p)) else intC (prR L i) := by
  unfold prR
  rw [List.foldl_append]
  simp only [List.foldl_cons, List.foldl_nil]
  by_cases h : i = v.toNat
  · rw [if_pos h, if_pos h, h]
  · rw [if_neg h, if_neg h]
@[reducible] def rowP (n : Nat) (L : List (Int × Int)) : HO := rowG n (prR L)
theorem chkd_zero {f : Fun} {m : Mch} (h0 : flwF f m = 0) : Chkd f := chkd_of (Classical.byContradiction fun hn => by rw [flwF_1 hn] at h0; exact hn h0)
set_option maxHeartbeats 4000000 in
theorem c_Prices (f : Fun) (m : Mch) (hok : Fun.ok f) {d : Nat → Int} (h : TrOk f d) (h0 : flwF f m = 0) : ACallIs B.P 25 [f.av, m.av] (.tup [.ro 1 f.Values.length (fun v => intC (prR (ocB f f.Blocks.length) v)), .i64 0]) := by
  have hC := chkd_zero h0
  have hz := h.e.siz
  have hb := hz.blocks
  have hbl : f.Blocks.length ≤ maxLen := by unfold maxLen; omega
  have hvl := hz.values
  refine ACallIs.enter B _ _ Try.func25 rfl rfl Try.ntmps25 Try.results25 rfl fun hreal => ?_
  clear hreal
  repeat (first | refine AWp.seq ?_ | refine AWp.block ?_ | refine AWp.skip ?_)
  refine AWp.region ?_
  intro _
  refine AWp.freezeObj 2 rfl rfl ?_
  refine AWp.freezeObj 3 rfl rfl ?_
  repeat (first | refine AWp.seq ?_ | refine AWp.block ?_ | refine AWp.skip ?_)
  refine AWp.region ?_
  refine CallX.pure (c_Dominators f m hok h h0) rfl rfl rfl ?_
  intro _
  refine AWp.freezeObj 6 rfl rfl ?_
  repeat (first | refine AWp.seq ?_ | refine AWp.block ?_ | refine AWp.skip ?_)
  refine AWp.region ?_
  intro _
  repeat (first | refine AWp.seq ?_ | refine AWp.block ?_ | refine AWp.skip ?_)
  refine AWp.cond (And.intro (fun h1 => ?_) (fun h1 => ?_))
  · cases h1
  repeat (first | refine AWp.seq ?_ | refine AWp.block ?_ | refine AWp.skip ?_)
  refine AWp.region ?_
  refine And.intro rfl (And.intro (Int.natCast_nonneg _) (And.intro (by simp only [Int.toNat_natCast]; omega) ?_))
  intro _
  repeat (first | refine AWp.seq ?_ | refine AWp.block ?_ | refine AWp.skip ?_)
  refine AWp.region ?_
  intro _
  repeat (first | refine AWp.seq ?_ | refine AWp.block ?_ | refine AWp.skip ?_)
  refine AWp.loop (fun k : Nat => ⟨[(6, .ptr [natsL (ordF (scF f) f.Blocks.length), idmV f d, depV f]), (8, .sl 34 f.Values.length), (36, roL 3 Blk.cells f.Blocks), (37, .i64 f.Blocks.length), (38, .i64 k)], [(34, rowP f.Values.length (ocB f k))]⟩) (fun k => k ≤ f.Blocks.length) (fun k => f.Blocks.length - k) 0 (Nat.zero_le _) ?_ ?_
  · refine And.intro ?_ (And.intro ⟨_, _, rfl, rfl, fun i hi => rfl⟩ (And.intro trivial trivial))
    repeat' (first | exact rfl | exact trivial | refine And.intro ?_ ?_)
  intro k hk
  repeat (first | refine AWp.seq ?_ | refine AWp.block ?_ | refine AWp.skip ?_)
  refine AWp.region ?_
  intro _
  repeat (first | refine AWp.seq ?_ | refine AWp.block ?_ | refine AWp.skip ?_)
  refine AWp.cond (And.intro (fun h1 => ?_) (fun h1 => ?_))
  · have hk' : k < f.Blocks.length := Int.ofNat_lt.1 (of_decide_eq_true h1)
    have hpa := hz.params k hk'
    have hin := hz.instrs k hk'
    have hed := hz.edges k hk'
    have hpl : (f.Blocks.getD k default).Params.length ≤ maxLen := by unfold maxLen; omega
    have hil : (f.Blocks.getD k default).Instrs.length ≤ maxLen := by unfold maxLen; omega
    have hel : (f.Blocks.getD k default).Edges.length ≤ maxLen := by unfold maxLen; omega
    have hdl := depF_le (sc := scF f) (n := f.Blocks.length) f.Blocks.length k
    repeat (first | refine AWp.seq ?_ | refine AWp.block ?_ | refine AWp.skip ?_)
    refine AWp.region ?_
    refine And.intro (fun _ => And.intro (Int.natCast_nonneg _) (Int.ofNat_lt.2 hk')) ?_
    intro _
    refine AWp.freezeObj 10 rfl rfl ?_
    repeat (first | refine AWp.seq ?_ | refine AWp.block ?_ | refine AWp.skip ?_)
    refine AWp.region ?_
    refine And.intro (fun _ => And.intro (Int.natCast_nonneg _) (Int.ofNat_lt.2 hk')) ?_
    refine CallX.pure (c_price (depF (scF f) f.Blocks.length f.Blocks.length k) (by omega)) rfl rfl rfl ?_
    intro _
    repeat (first | refine AWp.seq ?_ | refine AWp.block ?_ | refine AWp.skip ?_)
    refine AWp.region ?_
    intro _
    repeat (first | refine AWp.seq ?_ | refine AWp.block ?_ | refine AWp.skip ?_)
    refine AWp.loop (fun j : Nat => ⟨[(6, .ptr [natsL (ordF (scF f) f.Blocks.length), idmV f d, depV f]), (8, .sl 34 f.Values.length), (36, roL 3 Blk.cells f.Blocks), (37, .i64 f.Blocks.length), (38, .i64 k), (10, .ptr (f.Blocks.getD k default).cells), (11, .i64 (dpF f k)), (50, ints (f.Blocks.getD k default).Params), (51, .i64 (f.Blocks.getD k default).Params.length), (52, .i64 j)], [(34, rowP f.Values.length (ocB f k ++ ocA (dpF f k) (f.Blocks.getD k default).Params j))]⟩) (fun j => j ≤ (f.Blocks.getD k default).Params.length) (fun j => (f.Blocks.getD k default).Params.length - j) 0 (Nat.zero_le _) ?_ ?_
    · rw [ocA_nil]
      refine And.intro ?_ (And.intro ⟨_, _, rfl, rfl, fun i hi => rfl⟩ (And.intro trivial trivial))
      repeat' (first | exact rfl | exact trivial | refine And.intro ?_ ?_)
    intro j hj
    repeat (first | refine AWp.seq ?_ | refine AWp.block ?_ | refine AWp.skip ?_)
    refine AWp.region ?_
    intro _
    repeat (first | refine AWp.seq ?_ | refine AWp.block ?_ | refine AWp.skip ?_)
    refine AWp.cond (And.intro (fun h2 => ?_) (fun h2 => ?_))
    · have hj' : j < (f.Blocks.getD k default).Params.length := Int.ofNat_lt.1 (of_decide_eq_true h2)
      have hr := hC.rng (ev_param hk' (getD_mem (d := default) hj'))
      have hrn : ((f.Blocks.getD k default).Params.getD j default).toNat < f.Values.length := by have h1 := hr.1; have h2 := hr.2; simp only at h1 h2; omega
      have hS : ocB f k ++ ocA (dpF f k) (f.Blocks.getD k default).Params (j + 1) = (ocB f k ++ ocA (dpF f k) (f.Blocks.getD k default).Params j) ++ [((f.Blocks.getD k default).Params.getD j default, (dpF f k))] := by rw [ocA_succ hj', List.append_assoc]
      repeat (first | refine AWp.seq ?_ | refine AWp.block ?_ | refine AWp.skip ?_)
      refine AWp.region ?_
      refine And.intro (fun _ => And.intro (Int.natCast_nonneg _) (Int.ofNat_lt.2 hj')) ?_
      intro _
      repeat (first | refine AWp.seq ?_ | refine AWp.block ?_ | refine AWp.skip ?_)
      refine AWp.region ?_
      repeat' refine And.intro ?_ ?_
      all_goals first | exact fun h => h | exact gT | exact gF | exact fun _ => hr | exact fun _ => hrn | exact hrn | skip
      intro _
      repeat (first | refine AWp.seq ?_ | refine AWp.block ?_ | refine AWp.skip ?_)
      refine AWp.region ?_
      intro _
      refine round_end (j + 1) hj' ?_ (by omega)
      rw [hS]
      refine And.intro ?_ (And.intro ⟨_, _, rfl, rfl, fun i hi => prR_snoc⟩ (And.intro trivial trivial))
      repeat' (first | exact rfl | exact trivial | exact congrArg (fun z => some (AV.i64 z)) (wrap_succ hj' hpl) | refine And.intro ?_ ?_)
    have hj3 : ¬ (j : Int) < (f.Blocks.getD k default).Params.length := of_decide_eq_false h2
    obtain rfl : j = (f.Blocks.getD k default).Params.length := by omega
    clear h2 hj hj3
    refine AWp.exit ?_
    repeat (first | refine AWp.seq ?_ | refine AWp.block ?_ | refine AWp.skip ?_)
    refine AWp.region ?_
    intro _
    repeat (first | refine AWp.seq ?_ | refine AWp.block ?_ | refine AWp.skip ?_)
    refine AWp.loop (fun i : Nat => ⟨[(6, .ptr [natsL (ordF (scF f) f.Blocks.length), idmV f d, depV f]), (8, .sl 34 f.Values.length), (36, roL 3 Blk.cells f.Blocks), (37, .i64 f.Blocks.length), (38, .i64 k), (10, .ptr (f.Blocks.getD k default).cells), (11, .i64 (dpF f k)), (65, roL 3 Ins.cells (f.Blocks.getD k default).Instrs), (66, .i64 (f.Blocks.getD k default).Instrs.length), (67, .i64 i)], [(34, rowP f.Values.length ((ocB f k ++ ocA (dpF f k) (f.Blocks.getD k default).Params (f.Blocks.getD k default).Params.length) ++ ocI (dpF f k) (f.Blocks.getD k default) i))]⟩) (fun i => i ≤ (f.Blocks.getD k default).Instrs.length) (fun i => (f.Blocks.getD k default).Instrs.length - i) 0 (Nat.zero_le _) ?_ ?_
    · rw [ocI_nil]
      refine And.intro ?_ (And.intro ⟨_, _, rfl, rfl, fun i hi => rfl⟩ (And.intro trivial trivial))
      repeat' (first | exact rfl | exact trivial | refine And.intro ?_ ?_)
    intro i hi
    repeat (first | refine AWp.seq ?_ | refine AWp.block ?_ | refine AWp.skip ?_)
    refine AWp.region ?_
    intro _
    repeat (first | refine AWp.seq ?_ | refine AWp.block ?_ | refine AWp.skip ?_)
    refine AWp.cond (And.intro (fun h2 => ?_) (fun h2 => ?_))
    · have hi' : i < (f.Blocks.getD k default).Instrs.length := Int.ofNat_lt.1 (of_decide_eq_true h2)
      have hop := hz.ops k i hk' hi'
      have hol : ((f.Blocks.getD k default).Instrs.getD i default).Operands.length ≤ maxLen := by unfold maxLen; omega
      repeat (first | refine AWp.seq ?_ | refine AWp.block ?_ | refine AWp.skip ?_)
      refine AWp.region ?_
      refine And.intro (fun _ => And.intro (Int.natCast_nonneg _) (Int.ofNat_lt.2 hi')) ?_
      intro _
      refine AWp.freezeObj 15 rfl rfl ?_
      repeat (first | refine AWp.seq ?_ | refine AWp.block ?_ | refine AWp.skip ?_)
      refine AWp.region ?_
      intro _
      repeat (first | refine AWp.seq ?_ | refine AWp.block ?_ | refine AWp.skip ?_)
      refine AWp.loop (fun o : Nat => ⟨[(6, .ptr [natsL (ordF (scF f) f.Blocks.length), idmV f d, depV f]), (8, .sl 34 f.Values.length), (36, roL 3 Blk.cells f.Blocks), (37, .i64 f.Blocks.length), (38, .i64 k), (10, .ptr (f.Blocks.getD k default).cells), (11, .i64 (dpF f k)), (65, roL 3 Ins.cells (f.Blocks.getD k default).Instrs), (66, .i64 (f.Blocks.getD k default).Instrs.length), (67, .i64 i), (72, roL 5 Opd.cells ((f.Blocks.getD k default).Instrs.getD i default).Operands), (73, .i64 ((f.Blocks.getD k default).Instrs.getD i default).Operands.length), (74, .i64 o)], [(34, rowP f.Values.length ((ocB f k ++ ocA (dpF f k) (f.Blocks.getD k default).Params (f.Blocks.getD k default).Params.length) ++ ocI (dpF f k) (f.Blocks.getD k default) i ++ ocO (dpF f k) ((f.Blocks.getD k default).Instrs.getD i default).Operands o))]⟩) (fun o => o ≤ ((f.Blocks.getD k default).Instrs.getD i default).Operands.length) (fun o => ((f.Blocks.getD k default).Instrs.getD i default).Operands.length - o) 0 (Nat.zero_le _) ?_ ?_
      · rw [ocO_nil]
        refine And.intro ?_ (And.intro ⟨_, _, rfl, rfl, fun i hi => rfl⟩ (And.intro trivial trivial))
        repeat' (first | exact rfl | exact trivial | refine And.intro ?_ ?_)
      intro o ho
      repeat (first | refine AWp.seq ?_ | refine AWp.block ?_ | refine AWp.skip ?_)
      refine AWp.region ?_
      intro _
      repeat (first | refine AWp.seq ?_ | refine AWp.block ?_ | refine AWp.skip ?_)
      refine AWp.cond (And.intro (fun h3 => ?_) (fun h3 => ?_))
      · have ho' : o < ((f.Blocks.getD k default).Instrs.getD i default).Operands.length := Int.ofNat_lt.1 (of_decide_eq_true h3)
        have hr := idx_ok (hC.opv k i o hk' hi' ho')
        have hrn : (((f.Blocks.getD k default).Instrs.getD i default).Operands.getD o default).Value.toNat < f.Values.length := by omega
        have hS : (ocB f k ++ ocA (dpF f k) (f.Blocks.getD k default).Params (f.Blocks.getD k default).Params.length) ++ ocI (dpF f k) (f.Blocks.getD k default) i ++ ocO (dpF f k) ((f.Blocks.getD k default).Instrs.getD i default).Operands (o + 1) = ((ocB f k ++ ocA (dpF f k) (f.Blocks.getD k default).Params (f.Blocks.getD k default).Params.length) ++ ocI (dpF f k) (f.Blocks.getD k default) i ++ ocO (dpF f k) ((f.Blocks.getD k default).Instrs.getD i default).Operands o) ++ [((((f.Blocks.getD k default).Instrs.getD i default).Operands.getD o default).Value, (dpF f k))] := by rw [ocO_succ ho']; simp only [List.append_assoc]
        repeat (first | refine AWp.seq ?_ | refine AWp.block ?_ | refine AWp.skip ?_)
        refine AWp.region ?_
        refine And.intro (fun _ => And.intro (Int.natCast_nonneg _) (Int.ofNat_lt.2 ho')) ?_
        intro _
        refine AWp.freezeObj 17 rfl rfl ?_
        repeat (first | refine AWp.seq ?_ | refine AWp.block ?_ | refine AWp.skip ?_)
        refine AWp.region ?_
        repeat' refine And.intro ?_ ?_
        all_goals first | exact fun h => h | exact gT | exact gF | exact fun _ => hr | exact fun _ => hrn | exact hrn | skip
        intro _
        repeat (first | refine AWp.seq ?_ | refine AWp.block ?_ | refine AWp.skip ?_)
        refine AWp.region ?_
        intro _
        refine round_end (o + 1) ho' ?_ (by omega)
        rw [hS]
        refine And.intro ?_ (And.intro ⟨_, _, rfl, rfl, fun i hi => prR_snoc⟩ (And.intro trivial trivial))
        repeat' (first | exact rfl | exact trivial | exact congrArg (fun z => some (AV.i64 z)) (wrap_succ ho' hol) | refine And.intro ?_ ?_)
      have ho3 : ¬ (o : Int) < ((f.Blocks.getD k default).Instrs.getD i default).Operands.length := of_decide_eq_false h3
      obtain rfl : o = ((f.Blocks.getD k default).Instrs.getD i default).Operands.length := by omega
      have hS : (ocB f k ++ ocA (dpF f k) (f.Blocks.getD k default).Params (f.Blocks.getD k default).Params.length) ++ ocI (dpF f k) (f.Blocks.getD k default) (i + 1) = (ocB f k ++ ocA (dpF f k) (f.Blocks.getD k default).Params (f.Blocks.getD k default).Params.length) ++ ocI (dpF f k) (f.Blocks.getD k default) i ++ ocO (dpF f k) ((f.Blocks.getD k default).Instrs.getD i default).Operands ((f.Blocks.getD k default).Instrs.getD i default).Operands.length := by rw [ocI_succ]; simp only [List.append_assoc]
      refine AWp.exit ?_
      repeat (first | refine AWp.seq ?_ | refine AWp.block ?_ | refine AWp.skip ?_)
      refine AWp.region ?_
      intro _
      refine round_end (i + 1) hi' ?_ (by omega)
      rw [hS]
      refine And.intro ?_ (And.intro ⟨_, _, rfl, rfl, fun i hi => rfl⟩ (And.intro trivial trivial))
      repeat' (first | exact rfl | exact trivial | exact congrArg (fun z => some (AV.i64 z)) (wrap_succ hi' hil) | refine And.intro ?_ ?_)
    have hi3 : ¬ (i : Int) < (f.Blocks.getD k default).Instrs.length := of_decide_eq_false h2
    obtain rfl : i = (f.Blocks.getD k default).Instrs.length := by omega
    clear h2 hi hi3
    refine AWp.exit ?_
    repeat (first | refine AWp.seq ?_ | refine AWp.block ?_ | refine AWp.skip ?_)
    refine AWp.region ?_
    intro _
    repeat (first | refine AWp.seq ?_ | refine AWp.block ?_ | refine AWp.skip ?_)
    refine AWp.loop (fun e : Nat => ⟨[(6, .ptr [natsL (ordF (scF f) f.Blocks.length), idmV f d, depV f]), (8, .sl 34 f.Values.length), (36, roL 3 Blk.cells f.Blocks), (37, .i64 f.Blocks.length), (38, .i64 k), (10, .ptr (f.Blocks.getD k default).cells), (11, .i64 (dpF f k)), (89, roL 2 Edg.cells (f.Blocks.getD k default).Edges), (90, .i64 (f.Blocks.getD k default).Edges.length), (91, .i64 e)], [(34, rowP f.Values.length (((ocB f k ++ ocA (dpF f k) (f.Blocks.getD k default).Params (f.Blocks.getD k default).Params.length) ++ ocI (dpF f k) (f.Blocks.getD k default) (f.Blocks.getD k default).Instrs.length) ++ ocE (dpF f k) (f.Blocks.getD k default) e))]⟩) (fun e => e ≤ (f.Blocks.getD k default).Edges.length) (fun e => (f.Blocks.getD k default).Edges.length - e) 0 (Nat.zero_le _) ?_ ?_
    · rw [ocE_nil]
      refine And.intro ?_ (And.intro ⟨_, _, rfl, rfl, fun i hi => rfl⟩ (And.intro trivial trivial))
      repeat' (first | exact rfl | exact trivial | refine And.intro ?_ ?_)
    intro e he
    repeat (first | refine AWp.seq ?_ | refine AWp.block ?_ | refine AWp.skip ?_)
    refine AWp.region ?_
    intro _
    repeat (first | refine AWp.seq ?_ | refine AWp.block ?_ | refine AWp.skip ?_)
    refine AWp.cond (And.intro (fun h2 => ?_) (fun h2 => ?_))
    · have he' : e < (f.Blocks.getD k default).Edges.length := Int.ofNat_lt.1 (of_decide_eq_true h2)
      have hag := hC.argl k e hk' he'
      have hal : ((f.Blocks.getD k default).Edges.getD e default).Args.length ≤ maxLen := by unfold maxLen; omega
      repeat (first | refine AWp.seq ?_ | refine AWp.block ?_ | refine AWp.skip ?_)
      refine AWp.region ?_
      refine And.intro (fun _ => And.intro (Int.natCast_nonneg _) (Int.ofNat_lt.2 he')) ?_
      intro _
      refine AWp.freezeObj 19 rfl rfl ?_
      repeat (first | refine AWp.seq ?_ | refine AWp.block ?_ | refine AWp.skip ?_)
      refine AWp.region ?_
      intro _
      repeat (first | refine AWp.seq ?_ | refine AWp.block ?_ | refine AWp.skip ?_)
      refine AWp.loop (fun a : Nat => ⟨[(6, .ptr [natsL (ordF (scF f) f.Blocks.length), idmV f d, depV f]), (8, .sl 34 f.Values.length), (36, roL 3 Blk.cells f.Blocks), (37, .i64 f.Blocks.length), (38, .i64 k), (10, .ptr (f.Blocks.getD k default).cells), (11, .i64 (dpF f k)), (89, roL 2 Edg.cells (f.Blocks.getD k default).Edges), (90, .i64 (f.Blocks.getD k default).Edges.length), (91, .i64 e), (96, ints ((f.Blocks.getD k default).Edges.getD e default).Args), (97, .i64 ((f.Blocks.getD k default).Edges.getD e default).Args.length), (98, .i64 a)], [(34, rowP f.Values.length (((ocB f k ++ ocA (dpF f k) (f.Blocks.getD k default).Params (f.Blocks.getD k default).Params.length) ++ ocI (dpF f k) (f.Blocks.getD k default) (f.Blocks.getD k default).Instrs.length) ++ ocE (dpF f k) (f.Blocks.getD k default) e ++ ocA (dpF f k) ((f.Blocks.getD k default).Edges.getD e default).Args a))]⟩) (fun a => a ≤ ((f.Blocks.getD k default).Edges.getD e default).Args.length) (fun a => ((f.Blocks.getD k default).Edges.getD e default).Args.length - a) 0 (Nat.zero_le _) ?_ ?_
      · rw [ocA_nil]
        refine And.intro ?_ (And.intro ⟨_, _, rfl, rfl, fun i hi => rfl⟩ (And.intro trivial trivial))
        repeat' (first | exact rfl | exact trivial | refine And.intro ?_ ?_)
      intro a ha
      repeat (first | refine AWp.seq ?_ | refine AWp.block ?_ | refine AWp.skip ?_)
      refine AWp.region ?_
      intro _
      repeat (first | refine AWp.seq ?_ | refine AWp.block ?_ | refine AWp.skip ?_)
      refine AWp.cond (And.intro (fun h3 => ?_) (fun h3 => ?_))
      · have ha' : a < ((f.Blocks.getD k default).Edges.getD e default).Args.length := Int.ofNat_lt.1 (of_decide_eq_true h3)
        have hr := idx_ok (hC.argv k e a hk' he' ha')
        have hrn : (((f.Blocks.getD k default).Edges.getD e default).Args.getD a default).toNat < f.Values.length := by omega
        have hS : ((ocB f k ++ ocA (dpF f k) (f.Blocks.getD k default).Params (f.Blocks.getD k default).Params.length) ++ ocI (dpF f k) (f.Blocks.getD k default) (f.Blocks.getD k default).Instrs.length) ++ ocE (dpF f k) (f.Blocks.getD k default) e ++ ocA (dpF f k) ((f.Blocks.getD k default).Edges.getD e default).Args (a + 1) = (((ocB f k ++ ocA (dpF f k) (f.Blocks.getD k default).Params (f.Blocks.getD k default).Params.length) ++ ocI (dpF f k) (f.Blocks.getD k default) (f.Blocks.getD k default).Instrs.length) ++ ocE (dpF f k) (f.Blocks.getD k default) e ++ ocA (dpF f k) ((f.Blocks.getD k default).Edges.getD e default).Args a) ++ [(((f.Blocks.getD k default).Edges.getD e default).Args.getD a default, (dpF f k))] := by rw [ocA_succ ha']; simp only [List.append_assoc]
        repeat (first | refine AWp.seq ?_ | refine AWp.block ?_ | refine AWp.skip ?_)
        refine AWp.region ?_
        refine And.intro (fun _ => And.intro (Int.natCast_nonneg _) (Int.ofNat_lt.2 ha')) ?_
        intro _
        repeat (first | refine AWp.seq ?_ | refine AWp.block ?_ | refine AWp.skip ?_)
        refine AWp.region ?_
        repeat' refine And.intro ?_ ?_
        all_goals first | exact fun h => h | exact gT | exact gF | exact fun _ => hr | exact fun _ => hrn | exact hrn | skip
        intro _
        repeat (first | refine AWp.seq ?_ | refine AWp.block ?_ | refine AWp.skip ?_)
        refine AWp.region ?_
        intro _
        refine round_end (a + 1) ha' ?_ (by omega)
        rw [hS]
        refine And.intro ?_ (And.intro ⟨_, _, rfl, rfl, fun i hi => prR_snoc⟩ (And.intro trivial trivial))
        repeat' (first | exact rfl | exact trivial | exact congrArg (fun z => some (AV.i64 z)) (wrap_succ ha' hal) | refine And.intro ?_ ?_)
      have ha3 : ¬ (a : Int) < ((f.Blocks.getD k default).Edges.getD e default).Args.length := of_decide_eq_false h3
      obtain rfl : a = ((f.Blocks.getD k default).Edges.getD e default).Args.length := by omega
      have hS : ((ocB f k ++ ocA (dpF f k) (f.Blocks.getD k default).Params (f.Blocks.getD k default).Params.length) ++ ocI (dpF f k) (f.Blocks.getD k default) (f.Blocks.getD k default).Instrs.length) ++ ocE (dpF f k) (f.Blocks.getD k default) (e + 1) = ((ocB f k ++ ocA (dpF f k) (f.Blocks.getD k default).Params (f.Blocks.getD k default).Params.length) ++ ocI (dpF f k) (f.Blocks.getD k default) (f.Blocks.getD k default).Instrs.length) ++ ocE (dpF f k) (f.Blocks.getD k default) e ++ ocA (dpF f k) ((f.Blocks.getD k default).Edges.getD e default).Args ((f.Blocks.getD k default).Edges.getD e default).Args.length := by rw [ocE_succ]; simp only [List.append_assoc]
      refine AWp.exit ?_
      repeat (first | refine AWp.seq ?_ | refine AWp.block ?_ | refine AWp.skip ?_)
      refine AWp.region ?_
      intro _
      refine round_end (e + 1) he' ?_ (by omega)
      rw [hS]
      refine And.intro ?_ (And.intro ⟨_, _, rfl, rfl, fun i hi => rfl⟩ (And.intro trivial trivial))
      repeat' (first | exact rfl | exact trivial | exact congrArg (fun z => some (AV.i64 z)) (wrap_succ he' hel) | refine And.intro ?_ ?_)
    have he3 : ¬ (e : Int) < (f.Blocks.getD k default).Edges.length := of_decide_eq_false h2
    obtain rfl : e = (f.Blocks.getD k default).Edges.length := by omega
    refine AWp.exit ?_
    repeat (first | refine AWp.seq ?_ | refine AWp.block ?_ | refine AWp.skip ?_)
    refine AWp.region ?_
    intro _
    refine round_end (k + 1) hk' ?_ (by omega)
    rw [ocB_succ]
    refine And.intro ?_ (And.intro ⟨_, _, rfl, rfl, fun i hi => rfl⟩ (And.intro trivial trivial))
    repeat' (first | exact rfl | exact trivial | exact congrArg (fun z => some (AV.i64 z)) (wrap_succ hk' hbl) | refine And.intro ?_ ?_)
  have hk3 : ¬ (k : Int) < f.Blocks.length := of_decide_eq_false h1
  obtain rfl : k = f.Blocks.length := by omega
  refine AWp.exit ?_
  repeat (first | refine AWp.seq ?_ | refine AWp.block ?_ | refine AWp.skip ?_)
  refine AWp.region ?_
  intro _
  refine AWp.freeze 34 (fun v => intC (prR (ocB f f.Blocks.length) v)) rfl (fun i hi => rfl) ?_
  refine AWp.ret ⟨Or.inl rfl, rfl, ?_⟩
  intro _
  rfl
end Go.Proofs.Ytgahffjkaechmaa

/- Contract of the document's PricesOf. Condition: a checked function. -/
namespace Go.Proofs.Ytgahffjkaechmaa
open Go Go.Abs Go.RowKit Go.Abs.Gra

set_option maxHeartbeats 4000000 in
theorem c_PricesOf (f : Fun) (m : Mch) (hok : Fun.ok f) {d : Nat → Int} (h : TrOk f d) (h0 : flwF f m = 0) : ACallIs B.P 26 [f.av, m.av] (.tup [.ro 1 f.Values.length (fun v => intC (prR (ocB f f.Blocks.length) v)), .i64 0]) := by
  have hC := chkd_zero h0
  have hz := h.e.siz
  have hb := hz.blocks
  have hbl : f.Blocks.length ≤ maxLen := by unfold maxLen; omega
  have hvl := hz.values
  refine ACallIs.enter B _ _ Try.func26 rfl rfl Try.ntmps26 Try.results26 rfl fun hreal => ?_
  clear hreal
  repeat (first | refine AWp.seq ?_ | refine AWp.block ?_ | refine AWp.skip ?_)
  refine AWp.region ?_
  intro _
  refine AWp.freezeObj 2 rfl rfl ?_
  refine AWp.freezeObj 3 rfl rfl ?_
  repeat (first | refine AWp.seq ?_ | refine AWp.block ?_ | refine AWp.skip ?_)
  refine AWp.region ?_
  refine CallX.pure (c_TreeOf f m hok h h0) rfl rfl rfl ?_
  intro _
  refine AWp.freezeObj 6 rfl rfl ?_
  repeat (first | refine AWp.seq ?_ | refine AWp.block ?_ | refine AWp.skip ?_)
  refine AWp.region ?_
  intro _
  repeat (first | refine AWp.seq ?_ | refine AWp.block ?_ | refine AWp.skip ?_)
  refine AWp.cond (And.intro (fun h1 => ?_) (fun h1 => ?_))
  · cases h1
  repeat (first | refine AWp.seq ?_ | refine AWp.block ?_ | refine AWp.skip ?_)
  refine AWp.region ?_
  refine And.intro rfl (And.intro (Int.natCast_nonneg _) (And.intro (by simp only [Int.toNat_natCast]; omega) ?_))
  intro _
  repeat (first | refine AWp.seq ?_ | refine AWp.block ?_ | refine AWp.skip ?_)
  refine AWp.region ?_
  intro _
  repeat (first | refine AWp.seq ?_ | refine AWp.block ?_ | refine AWp.skip ?_)
  refine AWp.loop (fun k : Nat => ⟨[(2, .ptr f.cells), (6, .ptr [natsL (ordF (scF f) f.Blocks.length), idmV f d, depV f]), (8, .sl 31 f.Values.length), (9, .i64 k)], [(31, rowP f.Values.length (ocB f k))]⟩) (fun k => k ≤ f.Blocks.length) (fun k => f.Blocks.length - k) 0 (Nat.zero_le _) ?_ ?_
  · refine And.intro ?_ (And.intro ⟨_, _, rfl, rfl, fun i hi => rfl⟩ (And.intro trivial trivial))
    repeat' (first | exact rfl | exact trivial | refine And.intro ?_ ?_)
  intro k hk
  repeat (first | refine AWp.seq ?_ | refine AWp.block ?_ | refine AWp.skip ?_)
  refine AWp.region ?_
  intro _
  repeat (first | refine AWp.seq ?_ | refine AWp.block ?_ | refine AWp.skip ?_)
  refine AWp.cond (And.intro (fun h1 => ?_) (fun h1 => ?_))
  · have hk' : k < f.Blocks.length := Int.ofNat_lt.1 (of_decide_eq_true h1)
    have hpa := hz.params k hk'
    have hin := hz.instrs k hk'
    have hed := hz.edges k hk'
    have hpl : (f.Blocks.getD k default).Params.length ≤ maxLen := by unfold maxLen; omega
    have hil : (f.Blocks.getD k default).Instrs.length ≤ maxLen := by unfold maxLen; omega
    have hel : (f.Blocks.getD k default).Edges.length ≤ maxLen := by unfold maxLen; omega
    have hdl := depF_le (sc := scF f) (n := f.Blocks.length) f.Blocks.length k
    repeat (first | refine AWp.seq ?_ | refine AWp.block ?_ | refine AWp.skip ?_)
    refine AWp.region ?_
    refine And.intro (fun _ => And.intro (Int.natCast_nonneg _) (Int.ofNat_lt.2 hk')) ?_
    intro _
    refine AWp.freezeObj 10 rfl rfl ?_
    repeat (first | refine AWp.seq ?_ | refine AWp.block ?_ | refine AWp.skip ?_)
    refine AWp.mono (Q := fun e s => e = .normal ∧ Sub ⟨[(2, .ptr f.cells), (6, .ptr [natsL (ordF (scF f) f.Blocks.length), idmV f d, depV f]), (8, .sl 31 f.Values.length), (9, .i64 k), (10, .ptr (f.Blocks.getD k default).cells), (11, .i64 (dpF f k))], [(31, rowP f.Values.length (ocB f k))]⟩ s) ?_ ?_
    · refine AWp.region ?_
      refine And.intro (fun _ => And.intro (Int.natCast_nonneg _) (Int.ofNat_lt.2 hk')) ?_
      refine And.intro (fun _ => And.intro (Int.natCast_nonneg _) (show ((depF (scF f) f.Blocks.length f.Blocks.length k : Nat) : Int) < 17 by omega)) ?_
      refine And.intro (fun _ => (show ((depF (scF f) f.Blocks.length f.Blocks.length k : Nat) : Int).toNat < 17 by omega)) ?_
      have key : ∀ (F : List AV → Prop) (X : List AV), X = [.i64 (dpF f k)] → F [.i64 (dpF f k)] → F X := fun F X e h => by rw [e]; exact h
      refine key _ _ ?_ ?_
      · show List.drop 0 (([[.i64 1], [.i64 8], [.i64 64], [.i64 512], [.i64 4096], [.i64 4096], [.i64 4096], [.i64 4096], [.i64 4096], [.i64 4096], [.i64 4096], [.i64 4096], [.i64 4096], [.i64 4096], [.i64 4096], [.i64 4096], [.i64 4096]] : List (List AV)).getD ((depF (scF f) f.Blocks.length f.Blocks.length k : Nat) : Int).toNat []) = _
        have hx17 : depF (scF f) f.Blocks.length f.Blocks.length k ≤ 16 := by omega
        unfold dpF
        revert hx17
        generalize depF (scF f) f.Blocks.length f.Blocks.length k = x
        intro hx17
        have : x = 0 ∨ x = 1 ∨ x = 2 ∨ x = 3 ∨ x = 4 ∨ x = 5 ∨ x = 6 ∨ x = 7 ∨ x = 8 ∨ x = 9 ∨ x = 10 ∨ x = 11 ∨ x = 12 ∨ x = 13 ∨ x = 14 ∨ x = 15 ∨ x = 16 := by omega
        rcases this with rfl | rfl | rfl | rfl | rfl | rfl | rfl | rfl | rfl | rfl | rfl | rfl | rfl | rfl | rfl | rfl | rfl <;> rfl
      · intro _
        refine And.intro rfl (And.intro ?_ (And.intro ⟨_, _, rfl, rfl, fun i hi => rfl⟩ (And.intro trivial trivial)))
        all_goals repeat' (first | exact rfl | exact trivial | refine And.intro ?_ ?_)
    rintro _ _ ⟨rfl, hs⟩
    refine AWp.weaken hs ?_
    repeat (first | refine AWp.seq ?_ | refine AWp.block ?_ | refine AWp.skip ?_)
    refine AWp.region ?_
    intro _
    repeat (first | refine AWp.seq ?_ | refine AWp.block ?_ | refine AWp.skip ?_)
    refine AWp.loop (fun j : Nat => ⟨[(2, .ptr f.cells), (6, .ptr [natsL (ordF (scF f) f.Blocks.length), idmV f d, depV f]), (8, .sl 31 f.Values.length), (9, .i64 k), (10, .ptr (f.Blocks.getD k default).cells), (11, .i64 (dpF f k)), (12, .i64 j)], [(31, rowP f.Values.length (ocB f k ++ ocA (dpF f k) (f.Blocks.getD k default).Params j))]⟩) (fun j => j ≤ (f.Blocks.getD k default).Params.length) (fun j => (f.Blocks.getD k default).Params.length - j) 0 (Nat.zero_le _) ?_ ?_
    · rw [ocA_nil]
      refine And.intro ?_ (And.intro ⟨_, _, rfl, rfl, fun i hi => rfl⟩ (And.intro trivial trivial))
      repeat' (first | exact rfl | exact trivial | refine And.intro ?_ ?_)
    intro j hj
    repeat (first | refine AWp.seq ?_ | refine AWp.block ?_ | refine AWp.skip ?_)
    refine AWp.region ?_
    intro _
    repeat (first | refine AWp.seq ?_ | refine AWp.block ?_ | refine AWp.skip ?_)
    refine AWp.cond (And.intro (fun h2 => ?_) (fun h2 => ?_))
    · have hj' : j < (f.Blocks.getD k default).Params.length := Int.ofNat_lt.1 (of_decide_eq_true h2)
      have hr := hC.rng (ev_param hk' (getD_mem (d := default) hj'))
      have hrn : ((f.Blocks.getD k default).Params.getD j default).toNat < f.Values.length := by have h1 := hr.1; have h2 := hr.2; simp only at h1 h2; omega
      have hS : ocB f k ++ ocA (dpF f k) (f.Blocks.getD k default).Params (j + 1) = (ocB f k ++ ocA (dpF f k) (f.Blocks.getD k default).Params j) ++ [((f.Blocks.getD k default).Params.getD j default, (dpF f k))] := by rw [ocA_succ hj', List.append_assoc]
      repeat (first | refine AWp.seq ?_ | refine AWp.block ?_ | refine AWp.skip ?_)
      refine AWp.mono (Q := fun e s => e = .normal ∧ Sub ⟨[(2, .ptr f.cells), (6, .ptr [natsL (ordF (scF f) f.Blocks.length), idmV f d, depV f]), (8, .sl 31 f.Values.length), (9, .i64 k), (10, .ptr (f.Blocks.getD k default).cells), (11, .i64 (dpF f k)), (12, .i64 j)], [(31, rowP f.Values.length (ocB f k ++ ocA (dpF f k) (f.Blocks.getD k default).Params (j + 1)))]⟩ s) ?_ ?_
      · refine AWp.quietFirst (.q 0 (.q 1 (.q 2 (.q 3 (.q 4 (.q 5 (.q 6 (.q 7 (.q 8 (.q 9 (.q 10 (.q 11 (.q 14 (.c 12 false (.c 13 false (.q 15 (.c 16 true (.c 17 true .fin .no) .no)) .no) .no)))))))))))))) [0, 1, 2, 3, 4, 5, 6, 7, 8, 9, 10, 11, 14, 15] [] mixed (by kernel_rfl) ?_
        repeat' (first | exact trivial | refine And.intro ?_ ?_)
        all_goals first | exact (fun _ => And.intro (Int.natCast_nonneg _) (Int.ofNat_lt.2 hj')) | exact fun _ => hr | exact fun _ => hrn | exact hrn | skip
        all_goals
          intro _
          rw [hS]
          refine And.intro rfl (And.intro ?_ (And.intro ⟨_, _, rfl, rfl, fun i hi => prR_snoc⟩ (And.intro trivial trivial)))
          all_goals repeat' (first | exact rfl | exact trivial | refine And.intro ?_ ?_)
      rintro _ _ ⟨rfl, hs⟩
      refine AWp.weaken hs ?_
      repeat (first | refine AWp.seq ?_ | refine AWp.block ?_ | refine AWp.skip ?_)
      refine AWp.region ?_
      intro _
      refine round_end (j + 1) hj' ?_ (by omega)
      refine And.intro ?_ (And.intro ⟨_, _, rfl, rfl, fun i hi => rfl⟩ (And.intro trivial trivial))
      repeat' (first | exact rfl | exact trivial | exact congrArg (fun z => some (AV.i64 z)) (wrap_succ hj' hpl) | refine And.intro ?_ ?_)
    have hj3 : ¬ (j : Int) < (f.Blocks.getD k default).Params.length := of_decide_eq_false h2
    obtain rfl : j = (f.Blocks.getD k default).Params.length := by omega
    clear h2 hj hj3
    refine AWp.exit ?_
    repeat (first | refine AWp.seq ?_ | refine AWp.block ?_ | refine AWp.skip ?_)
    refine AWp.region ?_
    intro _
    repeat (first | refine AWp.seq ?_ | refine AWp.block ?_ | refine AWp.skip ?_)
    refine AWp.loop (fun i : Nat => ⟨[(2, .ptr f.cells), (6, .ptr [natsL (ordF (scF f) f.Blocks.length), idmV f d, depV f]), (8, .sl 31 f.Values.length), (9, .i64 k), (10, .ptr (f.Blocks.getD k default).cells), (11, .i64 (dpF f k)), (13, .i64 i)], [(31, rowP f.Values.length ((ocB f k ++ ocA (dpF f k) (f.Blocks.getD k default).Params (f.Blocks.getD k default).Params.length) ++ ocI (dpF f k) (f.Blocks.getD k default) i))]⟩) (fun i => i ≤ (f.Blocks.getD k default).Instrs.length) (fun i => (f.Blocks.getD k default).Instrs.length - i) 0 (Nat.zero_le _) ?_ ?_
    · rw [ocI_nil]
      refine And.intro ?_ (And.intro ⟨_, _, rfl, rfl, fun i hi => rfl⟩ (And.intro trivial trivial))
      repeat' (first | exact rfl | exact trivial | refine And.intro ?_ ?_)
    intro i hi
    repeat (first | refine AWp.seq ?_ | refine AWp.block ?_ | refine AWp.skip ?_)
    refine AWp.region ?_
    intro _
    repeat (first | refine AWp.seq ?_ | refine AWp.block ?_ | refine AWp.skip ?_)
    refine AWp.cond (And.intro (fun h2 => ?_) (fun h2 => ?_))
    · have hi' : i < (f.Blocks.getD k default).Instrs.length := Int.ofNat_lt.1 (of_decide_eq_true h2)
      have hop := hz.ops k i hk' hi'
      have hol : ((f.Blocks.getD k default).Instrs.getD i default).Operands.length ≤ maxLen := by unfold maxLen; omega
      repeat (first | refine AWp.seq ?_ | refine AWp.block ?_ | refine AWp.skip ?_)
      refine AWp.region ?_
      intro _
      repeat (first | refine AWp.seq ?_ | refine AWp.block ?_ | refine AWp.skip ?_)
      refine AWp.loop (fun o : Nat => ⟨[(2, .ptr f.cells), (6, .ptr [natsL (ordF (scF f) f.Blocks.length), idmV f d, depV f]), (8, .sl 31 f.Values.length), (9, .i64 k), (10, .ptr (f.Blocks.getD k default).cells), (11, .i64 (dpF f k)), (13, .i64 i), (14, .i64 o)], [(31, rowP f.Values.length ((ocB f k ++ ocA (dpF f k) (f.Blocks.getD k default).Params (f.Blocks.getD k default).Params.length) ++ ocI (dpF f k) (f.Blocks.getD k default) i ++ ocO (dpF f k) ((f.Blocks.getD k default).Instrs.getD i default).Operands o))]⟩) (fun o => o ≤ ((f.Blocks.getD k default).Instrs.getD i default).Operands.length) (fun o => ((f.Blocks.getD k default).Instrs.getD i default).Operands.length - o) 0 (Nat.zero_le _) ?_ ?_
      · rw [ocO_nil]
        refine And.intro ?_ (And.intro ⟨_, _, rfl, rfl, fun i hi => rfl⟩ (And.intro trivial trivial))
        repeat' (first | exact rfl | exact trivial | refine And.intro ?_ ?_)
      intro o ho
      repeat (first | refine AWp.seq ?_ | refine AWp.block ?_ | refine AWp.skip ?_)
      refine AWp.region ?_
      refine And.intro (fun _ => And.intro (Int.natCast_nonneg _) (Int.ofNat_lt.2 hi')) ?_
      intro _
      repeat (first | refine AWp.seq ?_ | refine AWp.block ?_ | refine AWp.skip ?_)
      refine AWp.cond (And.intro (fun h3 => ?_) (fun h3 => ?_))
      · have ho' : o < ((f.Blocks.getD k default).Instrs.getD i default).Operands.length := Int.ofNat_lt.1 (of_decide_eq_true h3)
        have hr := idx_ok (hC.opv k i o hk' hi' ho')
        have hrn : (((f.Blocks.getD k default).Instrs.getD i default).Operands.getD o default).Value.toNat < f.Values.length := by omega
        have hS : (ocB f k ++ ocA (dpF f k) (f.Blocks.getD k default).Params (f.Blocks.getD k default).Params.length) ++ ocI (dpF f k) (f.Blocks.getD k default) i ++ ocO (dpF f k) ((f.Blocks.getD k default).Instrs.getD i default).Operands (o + 1) = ((ocB f k ++ ocA (dpF f k) (f.Blocks.getD k default).Params (f.Blocks.getD k default).Params.length) ++ ocI (dpF f k) (f.Blocks.getD k default) i ++ ocO (dpF f k) ((f.Blocks.getD k default).Instrs.getD i default).Operands o) ++ [((((f.Blocks.getD k default).Instrs.getD i default).Operands.getD o default).Value, (dpF f k))] := by rw [ocO_succ ho']; simp only [List.append_assoc]
        repeat (first | refine AWp.seq ?_ | refine AWp.block ?_ | refine AWp.skip ?_)
        refine AWp.region ?_
        refine And.intro (fun _ => And.intro (Int.natCast_nonneg _) (Int.ofNat_lt.2 hi')) ?_
        refine And.intro (fun _ => And.intro (Int.natCast_nonneg _) (Int.ofNat_lt.2 ho')) ?_
        intro _
        repeat (first | refine AWp.seq ?_ | refine AWp.block ?_ | refine AWp.skip ?_)
        refine AWp.region ?_
        repeat' refine And.intro ?_ ?_
        all_goals first | exact fun h => h | exact gT | exact gF | exact fun _ => hr | exact fun _ => hrn | exact hrn | skip
        intro _
        repeat (first | refine AWp.seq ?_ | refine AWp.block ?_ | refine AWp.skip ?_)
        refine AWp.region ?_
        intro _
        refine round_end (o + 1) ho' ?_ (by omega)
        rw [hS]
        refine And.intro ?_ (And.intro ⟨_, _, rfl, rfl, fun i hi => prR_snoc⟩ (And.intro trivial trivial))
        repeat' (first | exact rfl | exact trivial | exact congrArg (fun z => some (AV.i64 z)) (wrap_succ ho' hol) | refine And.intro ?_ ?_)
      have ho3 : ¬ (o : Int) < ((f.Blocks.getD k default).Instrs.getD i default).Operands.length := of_decide_eq_false h3
      obtain rfl : o = ((f.Blocks.getD k default).Instrs.getD i default).Operands.length := by omega
      have hS : (ocB f k ++ ocA (dpF f k) (f.Blocks.getD k default).Params (f.Blocks.getD k default).Params.length) ++ ocI (dpF f k) (f.Blocks.getD k default) (i + 1) = (ocB f k ++ ocA (dpF f k) (f.Blocks.getD k default).Params (f.Blocks.getD k default).Params.length) ++ ocI (dpF f k) (f.Blocks.getD k default) i ++ ocO (dpF f k) ((f.Blocks.getD k default).Instrs.getD i default).Operands ((f.Blocks.getD k default).Instrs.getD i default).Operands.length := by rw [ocI_succ]; simp only [List.append_assoc]
      refine AWp.exit ?_
      repeat (first | refine AWp.seq ?_ | refine AWp.block ?_ | refine AWp.skip ?_)
      refine AWp.region ?_
      intro _
      refine round_end (i + 1) hi' ?_ (by omega)
      rw [hS]
      refine And.intro ?_ (And.intro ⟨_, _, rfl, rfl, fun i hi => rfl⟩ (And.intro trivial trivial))
      repeat' (first | exact rfl | exact trivial | exact congrArg (fun z => some (AV.i64 z)) (wrap_succ hi' hil) | refine And.intro ?_ ?_)
    have hi3 : ¬ (i : Int) < (f.Blocks.getD k default).Instrs.length := of_decide_eq_false h2
    obtain rfl : i = (f.Blocks.getD k default).Instrs.length := by omega
    clear h2 hi hi3
    refine AWp.exit ?_
    repeat (first | refine AWp.seq ?_ | refine AWp.block ?_ | refine AWp.skip ?_)
    refine AWp.region ?_
    intro _
    repeat (first | refine AWp.seq ?_ | refine AWp.block ?_ | refine AWp.skip ?_)
    refine AWp.loop (fun e : Nat => ⟨[(2, .ptr f.cells), (6, .ptr [natsL (ordF (scF f) f.Blocks.length), idmV f d, depV f]), (8, .sl 31 f.Values.length), (9, .i64 k), (10, .ptr (f.Blocks.getD k default).cells), (11, .i64 (dpF f k)), (16, .i64 e)], [(31, rowP f.Values.length (((ocB f k ++ ocA (dpF f k) (f.Blocks.getD k default).Params (f.Blocks.getD k default).Params.length) ++ ocI (dpF f k) (f.Blocks.getD k default) (f.Blocks.getD k default).Instrs.length) ++ ocE (dpF f k) (f.Blocks.getD k default) e))]⟩) (fun e => e ≤ (f.Blocks.getD k default).Edges.length) (fun e => (f.Blocks.getD k default).Edges.length - e) 0 (Nat.zero_le _) ?_ ?_
    · rw [ocE_nil]
      refine And.intro ?_ (And.intro ⟨_, _, rfl, rfl, fun i hi => rfl⟩ (And.intro trivial trivial))
      repeat' (first | exact rfl | exact trivial | refine And.intro ?_ ?_)
    intro e he
    repeat (first | refine AWp.seq ?_ | refine AWp.block ?_ | refine AWp.skip ?_)
    refine AWp.region ?_
    intro _
    repeat (first | refine AWp.seq ?_ | refine AWp.block ?_ | refine AWp.skip ?_)
    refine AWp.cond (And.intro (fun h2 => ?_) (fun h2 => ?_))
    · have he' : e < (f.Blocks.getD k default).Edges.length := Int.ofNat_lt.1 (of_decide_eq_true h2)
      have hag := hC.argl k e hk' he'
      have hal : ((f.Blocks.getD k default).Edges.getD e default).Args.length ≤ maxLen := by unfold maxLen; omega
      repeat (first | refine AWp.seq ?_ | refine AWp.block ?_ | refine AWp.skip ?_)
      refine AWp.region ?_
      intro _
      repeat (first | refine AWp.seq ?_ | refine AWp.block ?_ | refine AWp.skip ?_)
      refine AWp.loop (fun a : Nat => ⟨[(2, .ptr f.cells), (6, .ptr [natsL (ordF (scF f) f.Blocks.length), idmV f d, depV f]), (8, .sl 31 f.Values.length), (9, .i64 k), (10, .ptr (f.Blocks.getD k default).cells), (11, .i64 (dpF f k)), (16, .i64 e), (17, .i64 a)], [(31, rowP f.Values.length (((ocB f k ++ ocA (dpF f k) (f.Blocks.getD k default).Params (f.Blocks.getD k default).Params.length) ++ ocI (dpF f k) (f.Blocks.getD k default) (f.Blocks.getD k default).Instrs.length) ++ ocE (dpF f k) (f.Blocks.getD k default) e ++ ocA (dpF f k) ((f.Blocks.getD k default).Edges.getD e default).Args a))]⟩) (fun a => a ≤ ((f.Blocks.getD k default).Edges.getD e default).Args.length) (fun a => ((f.Blocks.getD k default).Edges.getD e default).Args.length - a) 0 (Nat.zero_le _) ?_ ?_
      · rw [ocA_nil]
        refine And.intro ?_ (And.intro ⟨_, _, rfl, rfl, fun i hi => rfl⟩ (And.intro trivial trivial))
        repeat' (first | exact rfl | exact trivial | refine And.intro ?_ ?_)
      intro a ha
      repeat (first | refine AWp.seq ?_ | refine AWp.block ?_ | refine AWp.skip ?_)
      refine AWp.region ?_
      refine And.intro (fun _ => And.intro (Int.natCast_nonneg _) (Int.ofNat_lt.2 he')) ?_
      intro _
      repeat (first | refine AWp.seq ?_ | refine AWp.block ?_ | refine AWp.skip ?_)
      refine AWp.cond (And.intro (fun h3 => ?_) (fun h3 => ?_))
      · have ha' : a < ((f.Blocks.getD k default).Edges.getD e default).Args.length := Int.ofNat_lt.1 (of_decide_eq_true h3)
        have hr := idx_ok (hC.argv k e a hk' he' ha')
        have hrn : (((f.Blocks.getD k default).Edges.getD e default).Args.getD a default).toNat < f.Values.length := by omega
        have hS : ((ocB f k ++ ocA (dpF f k) (f.Blocks.getD k default).Params (f.Blocks.getD k default).Params.length) ++ ocI (dpF f k) (f.Blocks.getD k default) (f.Blocks.getD k default).Instrs.length) ++ ocE (dpF f k) (f.Blocks.getD k default) e ++ ocA (dpF f k) ((f.Blocks.getD k default).Edges.getD e default).Args (a + 1) = (((ocB f k ++ ocA (dpF f k) (f.Blocks.getD k default).Params (f.Blocks.getD k default).Params.length) ++ ocI (dpF f k) (f.Blocks.getD k default) (f.Blocks.getD k default).Instrs.length) ++ ocE (dpF f k) (f.Blocks.getD k default) e ++ ocA (dpF f k) ((f.Blocks.getD k default).Edges.getD e default).Args a) ++ [(((f.Blocks.getD k default).Edges.getD e default).Args.getD a default, (dpF f k))] := by rw [ocA_succ ha']; simp only [List.append_assoc]
        repeat (first | refine AWp.seq ?_ | refine AWp.block ?_ | refine AWp.skip ?_)
        refine AWp.region ?_
        refine And.intro (fun _ => And.intro (Int.natCast_nonneg _) (Int.ofNat_lt.2 he')) ?_
        refine And.intro (fun _ => And.intro (Int.natCast_nonneg _) (Int.ofNat_lt.2 ha')) ?_
        intro _
        repeat (first | refine AWp.seq ?_ | refine AWp.block ?_ | refine AWp.skip ?_)
        refine AWp.region ?_
        repeat' refine And.intro ?_ ?_
        all_goals first | exact fun h => h | exact gT | exact gF | exact fun _ => hr | exact fun _ => hrn | exact hrn | skip
        intro _
        repeat (first | refine AWp.seq ?_ | refine AWp.block ?_ | refine AWp.skip ?_)
        refine AWp.region ?_
        intro _
        refine round_end (a + 1) ha' ?_ (by omega)
        rw [hS]
        refine And.intro ?_ (And.intro ⟨_, _, rfl, rfl, fun i hi => prR_snoc⟩ (And.intro trivial trivial))
        repeat' (first | exact rfl | exact trivial | exact congrArg (fun z => some (AV.i64 z)) (wrap_succ ha' hal) | refine And.intro ?_ ?_)
      have ha3 : ¬ (a : Int) < ((f.Blocks.getD k default).Edges.getD e default).Args.length := of_decide_eq_false h3
      obtain rfl : a = ((f.Blocks.getD k default).Edges.getD e default).Args.length := by omega
      have hS : ((ocB f k ++ ocA (dpF f k) (f.Blocks.getD k default).Params (f.Blocks.getD k default).Params.length) ++ ocI (dpF f k) (f.Blocks.getD k default) (f.Blocks.getD k default).Instrs.length) ++ ocE (dpF f k) (f.Blocks.getD k default) (e + 1) = ((ocB f k ++ ocA (dpF f k) (f.Blocks.getD k default).Params (f.Blocks.getD k default).Params.length) ++ ocI (dpF f k) (f.Blocks.getD k default) (f.Blocks.getD k default).Instrs.length) ++ ocE (dpF f k) (f.Blocks.getD k default) e ++ ocA (dpF f k) ((f.Blocks.getD k default).Edges.getD e default).Args ((f.Blocks.getD k default).Edges.getD e default).Args.length := by rw [ocE_succ]; simp only [List.append_assoc]
      refine AWp.exit ?_
      repeat (first | refine AWp.seq ?_ | refine AWp.block ?_ | refine AWp.skip ?_)
      refine AWp.region ?_
      intro _
      refine round_end (e + 1) he' ?_ (by omega)
      rw [hS]
      refine And.intro ?_ (And.intro ⟨_, _, rfl, rfl, fun i hi => rfl⟩ (And.intro trivial trivial))
      repeat' (first | exact rfl | exact trivial | exact congrArg (fun z => some (AV.i64 z)) (wrap_succ he' hel) | refine And.intro ?_ ?_)
    have he3 : ¬ (e : Int) < (f.Blocks.getD k default).Edges.length := of_decide_eq_false h2
    obtain rfl : e = (f.Blocks.getD k default).Edges.length := by omega
    refine AWp.exit ?_
    repeat (first | refine AWp.seq ?_ | refine AWp.block ?_ | refine AWp.skip ?_)
    refine AWp.region ?_
    intro _
    refine round_end (k + 1) hk' ?_ (by omega)
    rw [ocB_succ]
    refine And.intro ?_ (And.intro ⟨_, _, rfl, rfl, fun i hi => rfl⟩ (And.intro trivial trivial))
    repeat' (first | exact rfl | exact trivial | exact congrArg (fun z => some (AV.i64 z)) (wrap_succ hk' hbl) | refine And.intro ?_ ?_)
  have hk3 : ¬ (k : Int) < f.Blocks.length := of_decide_eq_false h1
  obtain rfl : k = f.Blocks.length := by omega
  refine AWp.exit ?_
  repeat (first | refine AWp.seq ?_ | refine AWp.block ?_ | refine AWp.skip ?_)
  refine AWp.region ?_
  intro _
  refine AWp.freeze 31 (fun v => intC (prR (ocB f f.Blocks.length) v)) rfl (fun i hi => rfl) ?_
  refine AWp.ret ⟨Or.inl rfl, rfl, ?_⟩
  intro _
  rfl
end Go.Proofs.Ytgahffjkaechmaa

/- Contracts of claim.Prices and of the document's PricesOf at a function that is no good. Condition: what its slices may weigh. -/
namespace Go.Proofs.Ytgahffjkaechmaa
open Go Go.Abs Go.RowKit Go.Abs.Gra

theorem c_PricesNo (f : Fun) (m : Mch) (hok : Fun.ok f) (h0 : flwF f m ≠ 0) : ACallIs B.P 25 [f.av, m.av] (.tup [nilV, .i64 (flwF f m)]) := by
  refine ACallIs.enter B _ _ Try.func25 rfl rfl Try.ntmps25 Try.results25 rfl fun hreal => ?_
  clear hreal
  repeat (first | refine AWp.seq ?_ | refine AWp.block ?_ | refine AWp.skip ?_)
  refine AWp.region ?_
  intro _
  refine AWp.freezeObj 2 rfl rfl ?_
  refine AWp.freezeObj 3 rfl rfl ?_
  repeat (first | refine AWp.seq ?_ | refine AWp.block ?_ | refine AWp.skip ?_)
  refine AWp.region ?_
  refine CallX.pure (c_DominatorsNo f m hok h0) rfl rfl rfl ?_
  intro _
  refine AWp.freezeObj 6 rfl rfl ?_
  repeat (first | refine AWp.seq ?_ | refine AWp.block ?_ | refine AWp.skip ?_)
  refine AWp.region ?_
  intro _
  repeat (first | refine AWp.seq ?_ | refine AWp.block ?_ | refine AWp.skip ?_)
  refine AWp.cond (And.intro (fun h1 => ?_) (fun h1 => ?_))
  · repeat (first | refine AWp.seq ?_ | refine AWp.block ?_ | refine AWp.skip ?_)
    refine AWp.region ?_
    intro _
    refine AWp.ret ⟨Or.inl rfl, rfl, ?_⟩
    intro _
    rfl
  exact absurd (show (flwF f m != 0) = false from h1) (by simpa using h0)
theorem c_PricesOfNo (f : Fun) (m : Mch) (hok : Fun.ok f) (h0 : flwF f m ≠ 0) : ACallIs B.P 26 [f.av, m.av] (.tup [nilV, .i64 (flwF f m)]) := by
  refine ACallIs.enter B _ _ Try.func26 rfl rfl Try.ntmps26 Try.results26 rfl fun hreal => ?_
  clear hreal
  repeat (first | refine AWp.seq ?_ | refine AWp.block ?_ | refine AWp.skip ?_)
  refine AWp.region ?_
  intro _
  refine AWp.freezeObj 2 rfl rfl ?_
  refine AWp.freezeObj 3 rfl rfl ?_
  repeat (first | refine AWp.seq ?_ | refine AWp.block ?_ | refine AWp.skip ?_)
  refine AWp.region ?_
  refine CallX.pure (c_TreeOfNo f m hok h0) rfl rfl rfl ?_
  intro _
  refine AWp.freezeObj 6 rfl rfl ?_
  repeat (first | refine AWp.seq ?_ | refine AWp.block ?_ | refine AWp.skip ?_)
  refine AWp.region ?_
  intro _
  repeat (first | refine AWp.seq ?_ | refine AWp.block ?_ | refine AWp.skip ?_)
  refine AWp.cond (And.intro (fun h1 => ?_) (fun h1 => ?_))
  · repeat (first | refine AWp.seq ?_ | refine AWp.block ?_ | refine AWp.skip ?_)
    refine AWp.region ?_
    intro _
    refine AWp.ret ⟨Or.inl rfl, rfl, ?_⟩
    intro _
    rfl
  exact absurd (show (flwF f m != 0) = false from h1) (by simpa using h0)
end Go.Proofs.Ytgahffjkaechmaa
