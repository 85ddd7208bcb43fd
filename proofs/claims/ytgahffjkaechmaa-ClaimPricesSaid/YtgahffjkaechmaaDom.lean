/- The tree of a checked function's blocks: order, idoms, depths; flow.Dominators and the document's TreeOf. Condition: the sizes, the edges' goals. -/
import Derived.Test.YtgahffjkaechmaaFlw
set_option linter.unusedVariables false
set_option linter.unusedSimpArgs false
/- Contracts of slices.Index, Contains, IndexFunc and ContainsFunc of numbers, and of flow.headed. Condition: a tree of idoms. -/
namespace Go.Proofs.Ytgahffjkaechmaa
open Go Go.Abs Go.RowKit Go.Abs.Gra

def isN (L : List Nat) (v : Nat) (j : Nat) : Bool := (v : Int) == ((L.getD j 0 : Nat) : Int)
theorem anyB_mem_nat (L : List Nat) (p : Nat → Bool) : anyB (fun j => p (L.getD j 0)) L.length = decide (∃ x ∈ L, p x = true) := by
  by_cases h : ∃ x ∈ L, p x = true
  · obtain ⟨x, hx, hp⟩ := h
    rw [decide_eq_true ⟨x, hx, hp⟩]
    obtain ⟨j, hj, rfl⟩ := List.getElem_of_mem hx
    exact anyB_hit hj (by rw [List.getD_eq_getElem?_getD, List.getElem?_eq_getElem hj]; exact hp)
  · rw [decide_eq_false h]
    refine anyB_none fun j hj => ?_
    rw [List.getD_eq_getElem?_getD, List.getElem?_eq_getElem hj]
    cases hp : p L[j] with
    | false => exact hp
    | true => exact absurd ⟨_, List.getElem_mem hj, hp⟩ h
theorem anyB_isN (L : List Nat) (v : Nat) : anyB (isN L v) L.length = decide (v ∈ L) := by
  have := anyB_mem_nat L fun x => (v : Int) == (x : Int)
  refine this.trans (decide_eq_decide.2 ⟨fun ⟨x, hx, e⟩ => ?_, fun h => ⟨v, h, by simp⟩⟩)
  have e : v = x := by have e : (v : Int) = x := by simpa using e
                       omega
  exact e ▸ hx
set_option maxHeartbeats 1000000 in
theorem c_IndexN (L : List Nat) (v : Nat) (hlen : L.length ≤ maxLen) : ACallIs B.P 188 [natsL L, .i64 v] (.i64 (idxF (isN L v) L.length)) := by
  refine ACallIs.enter B _ _ Try.func188 rfl rfl Try.ntmps188 Try.results188 rfl fun hreal => ?_
  clear hreal
  refine AWp.seq (AWp.region ?_)
  intro _
  refine AWp.seq (AWp.seq (AWp.region ?_))
  intro _
  refine AWp.block (AWp.loop (fun k : Nat => ⟨[(0, natsL L), (1, .i64 v), (7, .i64 L.length), (8, .i64 k)], []⟩) (fun k => k ≤ L.length ∧ ∀ j, j < k → isN L v j = false) (fun k => L.length - k) 0 ⟨Nat.zero_le _, fun j hj => absurd hj (by omega)⟩ ?_ ?_)
  · repeat' (first | exact rfl | exact trivial | refine And.intro ?_ ?_)
  intro k hk
  obtain ⟨hk, hg⟩ := hk
  repeat' (first
    | refine AWp.seq ?_ | refine AWp.block ?_ | refine AWp.skip ?_ | refine AWp.exit ?_
    | refine AWp.region ?_ | refine AWp.draw mixed (by kernel_rfl) ?_
    | refine AWp.cond (And.intro (fun h => ?_) (fun h => ?_))
    | refine AWp.ret ⟨Or.inl rfl, rfl, ?_⟩
    | exact trivial | refine And.intro ?_ ?_ | intro _)
  all_goals first | assumption | exact tupI (idxF_none (n := L.length) (fun j hj => hg j (by grind))).symm | refine tupI (idxF_hit (k := k) (n := L.length) (by grind) hg ?_).symm | refine round_end (k + 1) ⟨by grind, upto hg ?_⟩ (by repeat' (first | exact rfl | exact trivial | exact congrArg (fun z => some (AV.i64 z)) (wrap_succ (show k < L.length from by grind) hlen) | refine And.intro ?_ ?_)) (by grind) | skip
  all_goals first | assumption | ((try clear hg); (try simp only [Int.toNat_natCast, Bool.cond_true_left, Bool.cond_false_right, Bool.or_eq_true, Bool.and_eq_true, Bool.or_eq_false_iff, Bool.and_eq_false_iff, beq_eq_false_iff_ne, Bool.not_eq_true', Bool.not_eq_false', decide_eq_true_eq, decide_eq_false_iff_not, beq_iff_eq, isN] at *); (try simp only [bif_if] at *); ((skip) <;> grind))
theorem c_ContainsN (L : List Nat) (v : Nat) (hlen : L.length ≤ maxLen) : ACallIs B.P 143 [natsL L, .i64 v] (.bool (decide (v ∈ L))) := by
  refine ACallIs.enter B _ _ Try.func143 rfl rfl Try.ntmps143 Try.results143 rfl fun hreal => ?_
  clear hreal
  repeat' (first
    | refine AWp.seq ?_ | refine AWp.block ?_ | refine AWp.skip ?_ | refine AWp.exit ?_
    | refine AWp.region ?_ | refine AWp.draw mixed (by kernel_rfl) ?_
    | refine AWp.cond (And.intro (fun h => ?_) (fun h => ?_))
    | refine AWp.ret ⟨Or.inl rfl, rfl, ?_⟩
    | refine CallX.pure (c_IndexN L v hlen) rfl rfl rfl ?_ | refine CallK.intro (fun _ => c_IndexN L v hlen) ?_
    | exact trivial | refine And.intro ?_ ?_ | intro _)
  exact tupB ((idxF_any _ _).trans (anyB_isN L v))
open Classical in
set_option maxHeartbeats 1000000 in
theorem c_headed1 {n : Nat} {pl : Nat → Nat} {d : Nat → Int} (hd : WF n pl d) (hall : ∀ y, y < n → 0 ≤ d y) (a p : Nat) (hp : p < n) :
    ACallIs B.P 175 [.i64 p, .ptr [.ro 1 n (fun i => intC (idmR d i))], .ptr [.i64 a]] (.bool (decide (Anc d a p))) := by
  refine ACallIs.enter B _ _ Try.func175 rfl rfl Try.ntmps175 Try.results175 rfl fun hreal => ?_
  clear hreal
  repeat (first | refine AWp.seq ?_ | refine AWp.block ?_ | refine AWp.skip ?_)
  refine AWp.region ?_
  intro _
  repeat (first | refine AWp.seq ?_ | refine AWp.block ?_ | refine AWp.skip ?_)
  refine AWp.region ?_
  refine CallX.pure (c_dominates hd hall a p hp) rfl rfl rfl ?_
  intro _
  refine AWp.ret ⟨Or.inl rfl, rfl, ?_⟩
  intro _
  rfl
@[reducible] noncomputable def hdFn (n : Nat) (d : Nat → Int) (a : Nat) : AV := .fn 175 [.ptr [.ro 1 n (fun i => intC (idmR d i))], .ptr [.i64 a]]
open Classical in
set_option maxHeartbeats 1000000 in
theorem c_IndexHd {n : Nat} {pl : Nat → Nat} {d : Nat → Int} (hd : WF n pl d) (hall : ∀ y, y < n → 0 ≤ d y) (a : Nat) (L : List Nat) (hL : ∀ x ∈ L, x < n) (hlen : L.length ≤ maxLen) :
    ACallIs B.P 200 [natsL L, hdFn n d a] (.i64 (idxF (fun j => decide (Anc d a (L.getD j 0))) L.length)) := by
  refine ACallIs.enter B _ _ Try.func200 rfl rfl Try.ntmps200 Try.results200 rfl fun hreal => ?_
  clear hreal
  repeat (first | refine AWp.seq ?_ | refine AWp.block ?_ | refine AWp.skip ?_)
  refine AWp.region ?_
  intro _
  repeat (first | refine AWp.seq ?_ | refine AWp.block ?_ | refine AWp.skip ?_)
  refine AWp.region ?_
  intro _
  repeat (first | refine AWp.seq ?_ | refine AWp.block ?_ | refine AWp.skip ?_)
  refine AWp.loop (fun k : Nat => ⟨[(0, natsL L), (1, hdFn n d a), (7, .i64 L.length), (8, .i64 k)], []⟩) (fun k => k ≤ L.length ∧ ∀ j, j < k → decide (Anc d a (L.getD j 0)) = false) (fun k => L.length - k) 0 ⟨Nat.zero_le _, fun j hj => absurd hj (by omega)⟩ ?_ ?_
  · repeat' (first | exact rfl | exact trivial | refine And.intro ?_ ?_)
  rintro k ⟨hk, hg⟩
  repeat (first | refine AWp.seq ?_ | refine AWp.block ?_ | refine AWp.skip ?_)
  refine AWp.region ?_
  intro _
  repeat (first | refine AWp.seq ?_ | refine AWp.block ?_ | refine AWp.skip ?_)
  refine AWp.cond (And.intro (fun h => ?_) (fun h => ?_))
  · have hk' : k < L.length := Int.ofNat_lt.1 (of_decide_eq_true h)
    have hx : L.getD k 0 < n := hL _ (by rw [List.getD_eq_getElem?_getD, List.getElem?_eq_getElem hk']; exact List.getElem_mem hk')
    repeat (first | refine AWp.seq ?_ | refine AWp.block ?_ | refine AWp.skip ?_)
    refine AWp.region ?_
    intro _
    repeat (first | refine AWp.seq ?_ | refine AWp.block ?_ | refine AWp.skip ?_)
    refine AWp.region ?_
    refine And.intro (fun _ => And.intro (Int.natCast_nonneg _) (Int.ofNat_lt.2 hk')) ?_
    refine CallX.pure (c_headed1 hd hall a (L.getD k 0) hx) rfl rfl rfl ?_
    intro _
    repeat (first | refine AWp.seq ?_ | refine AWp.block ?_ | refine AWp.skip ?_)
    refine AWp.cond (And.intro (fun h2 => ?_) (fun h2 => ?_))
    · repeat (first | refine AWp.seq ?_ | refine AWp.block ?_ | refine AWp.skip ?_)
      refine AWp.region ?_
      intro _
      refine AWp.ret ⟨Or.inl rfl, rfl, ?_⟩
      intro _
      exact tupI (idxF_hit hk' hg h2).symm
    · repeat (first | refine AWp.seq ?_ | refine AWp.block ?_ | refine AWp.skip ?_)
      refine AWp.region ?_
      intro _
      exact round_end (k + 1) ⟨hk', upto hg h2⟩ (by repeat' (first | exact rfl | exact trivial | exact congrArg (fun z => some (AV.i64 z)) (wrap_succ hk' hlen) | refine And.intro ?_ ?_)) (by omega)
  · have hk3 : ¬ (k : Int) < L.length := of_decide_eq_false h
    obtain rfl : k = L.length := by omega
    refine AWp.exit ?_
    repeat (first | refine AWp.seq ?_ | refine AWp.block ?_ | refine AWp.skip ?_)
    refine AWp.region ?_
    intro _
    refine AWp.ret ⟨Or.inl rfl, rfl, ?_⟩
    intro _
    exact tupI (idxF_none hg).symm
open Classical in
theorem c_ContainsHd {n : Nat} {pl : Nat → Nat} {d : Nat → Int} (hd : WF n pl d) (hall : ∀ y, y < n → 0 ≤ d y) (a : Nat) (L : List Nat) (hL : ∀ x ∈ L, x < n) (hlen : L.length ≤ maxLen) :
    ACallIs B.P 174 [natsL L, hdFn n d a] (.bool (decide (∃ x ∈ L, Anc d a x))) := by
  refine ACallIs.enter B _ _ Try.func174 rfl rfl Try.ntmps174 Try.results174 rfl fun hreal => ?_
  clear hreal
  repeat (first | refine AWp.seq ?_ | refine AWp.block ?_ | refine AWp.skip ?_)
  refine AWp.region ?_
  intro _
  repeat (first | refine AWp.seq ?_ | refine AWp.block ?_ | refine AWp.skip ?_)
  refine AWp.region ?_
  refine CallX.pure (c_IndexHd hd hall a L hL hlen) rfl rfl rfl ?_
  intro _
  refine AWp.ret ⟨Or.inl rfl, rfl, ?_⟩
  intro _
  refine tupB ((idxF_any _ _).trans ((anyB_mem_nat L fun x => decide (Anc d a x)).trans (decide_eq_decide.2 ?_)))
  simp only [decide_eq_true_eq]
/-- What the walks of the tree are given. -/
structure TrOk (f : Fun) (d : Nat → Int) : Prop where
  e : EdgOk f
  o : OrdOk (scF f) f.Blocks.length
  d : Fin_ f.Blocks.length (rank (scF f) f.Blocks.length) (preds (scF f) f.Blocks.length) (scF f) d
theorem TrOk.wf {f : Fun} {d : Nat → Int} (h : TrOk f d) : WF f.Blocks.length (rank (scF f) f.Blocks.length) d := h.d.inv.wf
theorem TrOk.all {f : Fun} {d : Nat → Int} (h : TrOk f d) : ∀ y, y < f.Blocks.length → 0 ≤ d y := h.d.done
theorem TrOk.dom {f : Fun} {d : Nat → Int} (h : TrOk f d) {a y : Nat} (hy : y < f.Blocks.length) : Anc d a y ↔ ¬ Rch (scF f) a y := h.d.dom h.o.g hy
theorem TrOk.pl {f : Fun} {d : Nat → Int} (h : TrOk f d) (b : Nat) : (preds (scF f) f.Blocks.length b).length ≤ 48 := by
  have := prK_len (sc := scF f) (t := b) (a := f.Blocks.length) (k := 0) fun c hc => h.e.le3 c hc
  rw [prK_zero] at this
  have := h.e.siz.blocks
  omega
theorem TrOk.head {f : Fun} {d : Nat → Int} (h : TrOk f d) (a : Nat) : (∃ x ∈ preds (scF f) f.Blocks.length a, Anc d a x) ↔ Headed (scF f) f.Blocks.length a :=
  ⟨fun ⟨x, hx, hA⟩ => ⟨x, (mem_preds.1 hx).1, (mem_preds.1 hx).2, (h.dom (mem_preds.1 hx).1).1 hA⟩, fun ⟨x, h1, h2, h3⟩ => ⟨x, mem_preds.2 ⟨h1, h2⟩, (h.dom h1).2 h3⟩⟩
open Classical in
set_option maxHeartbeats 1000000 in
theorem c_headed (f : Fun) {d : Nat → Int} (h : TrOk f d) (a : Nat) (ha : a < f.Blocks.length) :
    ACallIs B.P 119 [f.av, .ro 1 f.Blocks.length (fun i => intC (idmR d i)), .i64 a] (.bool (decide (Headed (scF f) f.Blocks.length a))) := by
  refine ACallIs.enter B _ _ Try.func119 rfl rfl Try.ntmps119 Try.results119 rfl fun hreal => ?_
  clear hreal
  repeat (first | refine AWp.seq ?_ | refine AWp.block ?_ | refine AWp.skip ?_)
  refine AWp.region ?_
  intro _
  refine AWp.freezeObj 3 rfl rfl ?_
  refine AWp.freezeObj 4 rfl rfl ?_
  refine AWp.freezeObj 5 rfl rfl ?_
  repeat (first | refine AWp.seq ?_ | refine AWp.block ?_ | refine AWp.skip ?_)
  refine AWp.quietFirst (.q 0 (.q 2 (.q 5 (.c 1 false (.q 3 (.q 4 (.c 6 true (.q 7 .fin) .no))) .no)))) [0, 2, 3, 4, 5, 7] [] mixed (by kernel_rfl) ?_
  refine And.intro (CallX.pure (c_into f h.e) rfl rfl rfl ?_) trivial
  refine And.intro (fun _ => And.intro (Int.natCast_nonneg _) (Int.ofNat_lt.2 ha)) ?_
  refine And.intro (CallX.pure (c_ContainsHd h.wf h.all a (preds (scF f) f.Blocks.length a) (fun x hx => (mem_preds.1 hx).1) (by have := h.pl a; unfold maxLen; omega)) rfl rfl rfl ?_) trivial
  intro _
  refine AWp.ret ⟨Or.inl rfl, rfl, ?_⟩
  intro _
  exact tupB (decide_eq_decide.2 (h.head a))
end Go.Proofs.Ytgahffjkaechmaa

/- Contract of flow.loop. Condition: a tree of idoms. -/
namespace Go.Proofs.Ytgahffjkaechmaa
open Go Go.Abs Go.RowKit Go.Abs.Gra

theorem appN_row {A R : List Nat} {i : Nat} : natC ((A ++ R).getD i 0) = if i < A.length then natC (A.getD i 0) else natC (R.getD (i - A.length) 0) := by
  by_cases h : i < A.length
  · rw [if_pos h, List.getD_eq_getElem?_getD, List.getD_eq_getElem?_getD, List.getElem?_append_left h]
  · rw [if_neg h, List.getD_eq_getElem?_getD, List.getD_eq_getElem?_getD, List.getElem?_append_right (by omega)]
@[reducible] def predV (f : Fun) : AV := .ro 1 f.Blocks.length (fun b => [natsL (preds (scF f) f.Blocks.length b)])
@[reducible] def idmV (f : Fun) (d : Nat → Int) : AV := .ro 1 f.Blocks.length (fun i => intC (idmR d i))
open Classical in
noncomputable def bkK (f : Fun) (a k : Nat) : List Nat := ((preds (scF f) f.Blocks.length a).take k).filter fun p => decide (¬ Rch (scF f) (a : Int) p)
open Classical in
theorem bkK_hit {f : Fun} {a k : Nat} (hk : k < (preds (scF f) f.Blocks.length a).length) (h : ¬ Rch (scF f) (a : Int) ((preds (scF f) f.Blocks.length a).getD k 0)) : bkK f a (k + 1) = bkK f a k ++ [(preds (scF f) f.Blocks.length a).getD k 0] := by
  unfold bkK; rw [take_succ_0 hk, List.filter_append, List.filter_cons, if_pos (decide_eq_true h)]; rfl
open Classical in
theorem bkK_miss {f : Fun} {a k : Nat} (hk : k < (preds (scF f) f.Blocks.length a).length) (h : Rch (scF f) (a : Int) ((preds (scF f) f.Blocks.length a).getD k 0)) : bkK f a (k + 1) = bkK f a k := by
  unfold bkK; rw [take_succ_0 hk, List.filter_append, List.filter_cons, if_neg (by simpa using h)]; simp
open Classical in
theorem bkK_le {f : Fun} {a k : Nat} : (bkK f a k).length ≤ (preds (scF f) f.Blocks.length a).length := by
  unfold bkK
  refine Nat.le_trans (List.length_filter_le _ _) ?_
  rw [List.length_take]; exact Nat.min_le_right _ _
theorem bkK_all {f : Fun} {a : Nat} : bkK f a (preds (scF f) f.Blocks.length a).length = backs (scF f) f.Blocks.length a := by
  unfold bkK backs; rw [List.take_length]
open Classical in
set_option maxHeartbeats 2000000 in
theorem c_loop (f : Fun) {d : Nat → Int} (h : TrOk f d) (a : Nat) (ha : a < f.Blocks.length) :
    ACallIs B.P 120 [f.av, idmV f d, .i64 a] (natsL (loopF (scF f) f.Blocks.length 48 a)) := by
  have hb := h.e.siz.blocks
  have hlen := h.pl a
  have hlm : (preds (scF f) f.Blocks.length a).length ≤ maxLen := by unfold maxLen; omega
  refine ACallIs.enter B _ _ Try.func120 rfl rfl Try.ntmps120 Try.results120 rfl fun hreal => ?_
  clear hreal
  repeat (first | refine AWp.seq ?_ | refine AWp.block ?_ | refine AWp.skip ?_)
  refine AWp.region ?_
  intro _
  refine AWp.freezeObj 3 rfl rfl ?_
  repeat (first | refine AWp.seq ?_ | refine AWp.block ?_ | refine AWp.skip ?_)
  refine AWp.region ?_
  refine CallX.pure (c_into f h.e) rfl rfl rfl ?_
  intro _
  repeat (first | refine AWp.seq ?_ | refine AWp.block ?_ | refine AWp.skip ?_)
  refine AWp.region ?_
  intro _
  repeat (first | refine AWp.seq ?_ | refine AWp.block ?_ | refine AWp.skip ?_)
  refine AWp.region ?_
  intro _
  repeat (first | refine AWp.seq ?_ | refine AWp.block ?_ | refine AWp.skip ?_)
  refine AWp.region ?_
  refine And.intro (fun _ => And.intro (Int.natCast_nonneg _) (Int.ofNat_lt.2 ha)) ?_
  intro _
  refine AWp.adopt 9 50 3 1 rfl rfl rfl ?_
  repeat (first | refine AWp.seq ?_ | refine AWp.block ?_ | refine AWp.skip ?_)
  refine AWp.loop (fun k : Nat => ⟨[(1, idmV f d), (2, .i64 a), (7, predV f), (8, .sl 16 [a].length), (9, .sl 50 (bkK f a k).length), (20, natsL (preds (scF f) f.Blocks.length a)), (21, .i64 (preds (scF f) f.Blocks.length a).length), (22, .i64 k)], [(16, rowN [a]), (50, rowN (bkK f a k))]⟩) (fun k => k ≤ (preds (scF f) f.Blocks.length a).length) (fun k => (preds (scF f) f.Blocks.length a).length - k) 0 (Nat.zero_le _) ?_ ?_
  · refine And.intro ?_ (And.intro ⟨_, _, rfl, rfl, fun i hi => ?_⟩ (And.intro trivial (And.intro ⟨_, _, rfl, rfl, fun i hi => absurd hi (Nat.not_lt_zero _)⟩ (And.intro trivial trivial))))
    · repeat' (first | exact rfl | exact trivial | refine And.intro ?_ ?_)
    · have e : i = 0 := by simp at hi; exact hi
      subst e; rfl
  intro k hk
  have hbl := bkK_le (f := f) (a := a) (k := k)
  repeat (first | refine AWp.seq ?_ | refine AWp.block ?_ | refine AWp.skip ?_)
  refine AWp.region ?_
  intro _
  repeat (first | refine AWp.seq ?_ | refine AWp.block ?_ | refine AWp.skip ?_)
  refine AWp.cond (And.intro (fun h1 => ?_) (fun h1 => ?_))
  · have hk' : k < (preds (scF f) f.Blocks.length a).length := Int.ofNat_lt.1 (of_decide_eq_true h1)
    have hx : (preds (scF f) f.Blocks.length a).getD k 0 < f.Blocks.length := (mem_preds.1 (by rw [List.getD_eq_getElem?_getD, List.getElem?_eq_getElem hk']; exact List.getElem_mem hk')).1
    repeat (first | refine AWp.seq ?_ | refine AWp.block ?_ | refine AWp.skip ?_)
    refine AWp.region ?_
    refine And.intro (fun _ => And.intro (Int.natCast_nonneg _) (Int.ofNat_lt.2 hk')) ?_
    intro _
    repeat (first | refine AWp.seq ?_ | refine AWp.block ?_ | refine AWp.skip ?_)
    refine AWp.region ?_
    refine CallX.pure (c_dominates h.wf h.all a _ hx) rfl rfl rfl ?_
    intro _
    repeat (first | refine AWp.seq ?_ | refine AWp.block ?_ | refine AWp.skip ?_)
    refine AWp.cond (And.intro (fun h2 => ?_) (fun h2 => ?_))
    · have hS := bkK_hit (f := f) (a := a) hk' ((h.dom hx).1 (of_decide_eq_true h2))
      have hSl : (bkK f a (k + 1)).length = (bkK f a k).length + 1 := by rw [hS]; simp
      repeat (first | refine AWp.seq ?_ | refine AWp.block ?_ | refine AWp.skip ?_)
      refine AWp.region ?_
      refine And.intro (Nat.le_refl _) (And.intro (fun i hi => ?_) (And.intro rfl (And.intro (by omega) ?_)))
      · have e : i = 0 := by omega
        subst e; rfl
      intro _
      refine AWp.rename 33 50 rfl rfl ?_
      repeat (first | refine AWp.seq ?_ | refine AWp.block ?_ | refine AWp.skip ?_)
      refine AWp.region ?_
      intro _
      refine round_end (k + 1) hk' ?_ (by omega)
      refine And.intro ?_ (And.intro ⟨_, _, rfl, rfl, fun i hi => rfl⟩ (And.intro trivial (And.intro ⟨_, _, rfl, hSl.symm, fun i hi => ?_⟩ (And.intro trivial trivial))))
      · repeat' (first | exact rfl | exact trivial | exact congrArg (fun n => some (AV.sl 50 n)) hSl.symm | exact congrArg (fun z => some (AV.i64 z)) (wrap_succ hk' hlm) | refine And.intro ?_ ?_)
      · rw [hS] at hi ⊢
        exact snocN_row hi
    · have hS := bkK_miss (f := f) (a := a) hk' (Classical.byContradiction fun hn => of_decide_eq_false h2 ((h.dom hx).2 hn))
      repeat (first | refine AWp.seq ?_ | refine AWp.block ?_ | refine AWp.skip ?_)
      refine AWp.region ?_
      intro _
      refine round_end (k + 1) hk' ?_ (by omega)
      rw [hS]
      refine And.intro ?_ (And.intro ⟨_, _, rfl, rfl, fun i hi => rfl⟩ (And.intro trivial (And.intro ⟨_, _, rfl, rfl, fun i hi => rfl⟩ (And.intro trivial trivial))))
      repeat' (first | exact rfl | exact trivial | exact congrArg (fun z => some (AV.i64 z)) (wrap_succ hk' hlm) | refine And.intro ?_ ?_)
  have hk3 : ¬ (k : Int) < (preds (scF f) f.Blocks.length a).length := of_decide_eq_false h1
  obtain rfl : k = (preds (scF f) f.Blocks.length a).length := by omega
  clear hk hk3 h1
  have hI0 := loopF_start (B := 48) h.pl ha
  rw [bkK_all] at hbl ⊢
  refine AWp.exit ?_
  refine AWp.rename 16 51 rfl rfl ?_
  refine AWp.rename 50 62 rfl rfl ?_
  repeat (first | refine AWp.seq ?_ | refine AWp.block ?_ | refine AWp.skip ?_)
  refine AWp.loop (fun s : List Nat × List Nat => ⟨[(7, predV f), (8, .sl 51 s.1.length), (9, .sl 62 s.2.length)], [(51, rowN s.1), (62, rowN s.2)]⟩) (fun s => LpI (scF f) f.Blocks.length a 48 s.1 s.2 ∧ ∃ k, lpM f.Blocks.length 48 s.1 s.2 ≤ k ∧ run (scF f) f.Blocks.length k s.1 s.2 = loopF (scF f) f.Blocks.length 48 a) (fun s => lpM f.Blocks.length 48 s.1 s.2) ([a], backs (scF f) f.Blocks.length a) ⟨hI0, _, Nat.le_refl _, rfl⟩ ?_ ?_
  · refine And.intro ?_ (And.intro ⟨_, _, rfl, rfl, fun i hi => rfl⟩ (And.intro trivial (And.intro ⟨_, _, rfl, rfl, fun i hi => rfl⟩ (And.intro trivial trivial))))
    repeat' (first | exact rfl | exact trivial | refine And.intro ?_ ?_)
  rintro ⟨P, S⟩ ⟨hI, fl, hfl, hrun⟩
  simp only at hI hfl hrun
  have hPn : P.length ≤ f.Blocks.length := (nodup_len _ P hI.nodup hI.lt).1
  have hSn := hI.len
  have hSn2 : S.length ≤ 16 * 48 := Nat.le_trans hSn (Nat.mul_le_mul_right _ (by omega))
  repeat (first | refine AWp.seq ?_ | refine AWp.block ?_ | refine AWp.skip ?_)
  refine AWp.region ?_
  intro _
  repeat (first | refine AWp.seq ?_ | refine AWp.block ?_ | refine AWp.skip ?_)
  refine AWp.cond (And.intro (fun h3 => ?_) (fun h3 => ?_))
  · rcases List.eq_nil_or_concat S with rfl | ⟨S, b, rfl⟩
    · exact absurd (of_decide_eq_true h3) (by simp)
    rw [List.concat_eq_append] at *
    clear h3
    have hbn : b < f.Blocks.length := hI.ltS b (by simp)
    have hl1 : (S ++ [b]).length = S.length + 1 := by simp
    have hw : IntKind.i64.wrap (((S ++ [b]).length : Int) - 1) = (S.length : Int) := by rw [hl1, wrap_in (by omega) (by omega)]; omega
    have hg : (S ++ [b]).getD S.length 0 = b := by rw [List.getD_eq_getElem?_getD]; simp
    repeat (first | refine AWp.seq ?_ | refine AWp.block ?_ | refine AWp.skip ?_)
    refine AWp.region ?_
    refine And.intro (fun _ => And.intro (by rw [hw]; omega) (by rw [hw]; show (S.length : Int) < ((S ++ [b]).length : Int); omega)) ?_
    refine And.intro (by rw [hw]; simp) ?_
    intro _
    refine AWp.weaken (s' := ⟨[(7, predV f), (8, .sl 51 P.length), (9, .sl 62 (S ++ [b]).length), (12, .i64 b)], [(51, rowN P), (62, rowN (S ++ [b]))]⟩) ?_ ?_
    · refine And.intro ?_ (And.intro ⟨_, _, rfl, rfl, fun i hi => rfl⟩ (And.intro trivial (And.intro ⟨_, _, rfl, rfl, fun i hi => rfl⟩ (And.intro trivial trivial))))
      repeat' (first | exact rfl | exact trivial | refine And.intro ?_ ?_)
      all_goals exact congrArg (fun z : Nat => some (AV.i64 (z : Int))) (show (S ++ [b]).getD (IntKind.i64.wrap (((S ++ [b]).length : Int) - 1)).toNat 0 = b by rw [hw, Int.toNat_natCast, hg])
    repeat (first | refine AWp.seq ?_ | refine AWp.block ?_ | refine AWp.skip ?_)
    refine AWp.region ?_
    refine And.intro (fun _ => And.intro (by rw [hw]; omega) (by rw [hw]; omega)) ?_
    intro _
    refine AWp.weaken (s' := ⟨[(7, predV f), (8, .sl 51 P.length), (9, .sl 62 S.length), (12, .i64 b)], [(51, rowN P), (62, rowN (S ++ [b]))]⟩) ?_ ?_
    · refine And.intro ?_ (And.intro ⟨_, _, rfl, rfl, fun i hi => rfl⟩ (And.intro trivial (And.intro ⟨_, _, rfl, rfl, fun i hi => rfl⟩ (And.intro trivial trivial))))
      repeat' (first | exact rfl | exact trivial | exact congrArg (fun n => some (AV.sl 62 n)) (show (IntKind.i64.wrap (((S ++ [b]).length : Int) - 1)).toNat = S.length by rw [hw, Int.toNat_natCast]) | refine And.intro ?_ ?_)
    refine AWp.trunc 9 62 (k := S.length) rfl rfl rfl ?_
    refine AWp.weaken (s' := ⟨[(7, predV f), (8, .sl 51 P.length), (9, .sl 9 S.length), (12, .i64 b)], [(51, rowN P), (9, rowN S)]⟩) ?_ ?_
    · refine And.intro ?_ (And.intro ⟨_, _, rfl, rfl, fun i hi => rfl⟩ (And.intro trivial (And.intro ⟨_, _, rfl, rfl, fun i hi => ?_⟩ (And.intro trivial trivial))))
      · repeat' (first | exact rfl | exact trivial | refine And.intro ?_ ?_)
      · show natC (S.getD i 0) = natC ((S ++ [b]).getD i 0)
        rw [appN_row, if_pos hi]
    refine AWp.rename 9 50 rfl rfl ?_
    repeat (first | refine AWp.seq ?_ | refine AWp.block ?_ | refine AWp.skip ?_)
    refine AWp.region ?_
    refine CallX.pure (c_ContainsN P b (by unfold maxLen; omega)) rfl rfl rfl ?_
    intro _
    repeat (first | refine AWp.seq ?_ | refine AWp.block ?_ | refine AWp.skip ?_)
    refine AWp.cond (And.intro (fun h4 => ?_) (fun h4 => ?_))
    · have hbP : ¬ b ∈ P := by have h4 : (!decide (b ∈ P)) = true := h4
                               simpa using h4
      have hR := hI.room hbP
      have hpb := h.pl b
      repeat (first | refine AWp.seq ?_ | refine AWp.block ?_ | refine AWp.skip ?_)
      refine AWp.region ?_
      refine And.intro (Nat.le_refl _) (And.intro (fun i hi => ?_) (And.intro rfl (And.intro (by omega) ?_)))
      · have e : i = 0 := by omega
        subst e; rfl
      intro _
      refine AWp.rename 56 51 rfl rfl ?_
      repeat (first | refine AWp.seq ?_ | refine AWp.block ?_ | refine AWp.skip ?_)
      refine AWp.region ?_
      refine And.intro (fun _ => And.intro (Int.natCast_nonneg _) (Int.ofNat_lt.2 hbn)) ?_
      refine And.intro (fun i hi => rfl) (And.intro rfl (And.intro (by rw [Int.toNat_natCast]; omega) ?_))
      intro _
      have hM := lpM_new (n := f.Blocks.length) (B := 48) (P := P) (S := S) (b := b) hR hpb
      have hP1 : (P ++ [b]).length = P.length + 1 := by simp
      have hS1 : (S ++ preds (scF f) f.Blocks.length b).length = S.length + (preds (scF f) f.Blocks.length b).length := List.length_append
      repeat (first | refine AWp.seq ?_ | refine AWp.block ?_ | refine AWp.skip ?_)
      refine Exists.intro (P ++ [b], S ++ preds (scF f) f.Blocks.length b) (And.intro ⟨hI.new hbP hpb, ?_⟩ (And.intro ?_ hM))
      · obtain ⟨fl', rfl⟩ : ∃ t, fl = t + 1 := ⟨fl - 1, by omega⟩
        exact ⟨fl', (show lpM f.Blocks.length 48 (P ++ [b]) (S ++ preds (scF f) f.Blocks.length b) ≤ fl' by omega), by rw [← hrun, run_new hbP]⟩
      · refine And.intro ?_ (And.intro ⟨_, _, rfl, hP1.symm, fun i hi => snocN_row hi⟩ (And.intro trivial (And.intro ⟨_, _, rfl, hS1.symm, fun i hi => appN_row⟩ (And.intro trivial trivial))))
        repeat' (first | exact rfl | exact trivial | exact congrArg (fun n => some (AV.sl 51 n)) hP1.symm | exact congrArg (fun n => some (AV.sl 62 n)) hS1.symm | refine And.intro ?_ ?_)
    · have hbP : b ∈ P := by have h4 : (!decide (b ∈ P)) = false := h4
                             simpa using h4
      have hM := lpM_old (n := f.Blocks.length) (B := 48) (P := P) (S := S) (b := b)
      refine AWp.rename 50 62 rfl rfl ?_
      repeat (first | refine AWp.seq ?_ | refine AWp.block ?_ | refine AWp.skip ?_)
      refine Exists.intro (P, S) (And.intro ⟨hI.old hbP, ?_⟩ (And.intro ?_ hM))
      · obtain ⟨fl', rfl⟩ : ∃ t, fl = t + 1 := ⟨fl - 1, by omega⟩
        exact ⟨fl', (show lpM f.Blocks.length 48 P S ≤ fl' by omega), by rw [← hrun, run_old hbP]⟩
      · refine And.intro ?_ (And.intro ⟨_, _, rfl, rfl, fun i hi => rfl⟩ (And.intro trivial (And.intro ⟨_, _, rfl, rfl, fun i hi => rfl⟩ (And.intro trivial trivial))))
        repeat' (first | exact rfl | exact trivial | refine And.intro ?_ ?_)
  · have h3 : decide ((S.length : Int) > 0) = false := h3
    have h3 := of_decide_eq_false h3
    have hS0 : S = [] := List.length_eq_zero_iff.1 (by omega)
    subst hS0
    rw [run_nil] at hrun
    subst hrun
    refine AWp.exit ?_
    repeat (first | refine AWp.seq ?_ | refine AWp.block ?_ | refine AWp.skip ?_)
    refine AWp.region ?_
    intro _
    refine AWp.freeze 51 (fun i => natC ((loopF (scF f) f.Blocks.length 48 a).getD i 0)) rfl (fun i hi => rfl) ?_
    refine AWp.ret ⟨Or.inl rfl, rfl, ?_⟩
    intro _
    rfl
end Go.Proofs.Ytgahffjkaechmaa

/- Contracts of flow.tree and flow.Dominators. Condition: a checked function. -/
namespace Go.Proofs.Ytgahffjkaechmaa
open Go Go.Abs Go.RowKit Go.Abs.Gra

@[reducible] noncomputable def depV (f : Fun) : AV := .ro 1 f.Blocks.length (fun x => natC (depF (scF f) f.Blocks.length f.Blocks.length x))
@[reducible] noncomputable def treeV (f : Fun) (d : Nat → Int) : AV := .agg [natsL (ordF (scF f) f.Blocks.length), idmV f d, depV f]
@[reducible] def nilV : AV := .val (.slice none 0 0)
@[reducible] noncomputable def depR (f : Fun) (k : Nat) : HO := rowG f.Blocks.length (fun x => ((depF (scF f) f.Blocks.length k x : Nat) : Int))
@[reducible] noncomputable def depL (f : Fun) (L : List Nat) (k j : Nat) : HO := rowG f.Blocks.length (fun x => ((depG (scF f) f.Blocks.length L k j x : Nat) : Int))
open Classical in
set_option maxHeartbeats 2000000 in
theorem c_tree (f : Fun) {d : Nat → Int} (h : TrOk f d) : ACallIs B.P 49 [f.av] (treeV f d) := by
  have hb := h.e.siz.blocks
  have hbl : f.Blocks.length ≤ maxLen := by unfold maxLen; omega
  refine ACallIs.enter B _ _ Try.func49 rfl rfl Try.ntmps49 Try.results49 rfl fun hreal => ?_
  clear hreal
  repeat (first | refine AWp.seq ?_ | refine AWp.block ?_ | refine AWp.skip ?_)
  refine AWp.region ?_
  intro _
  refine AWp.freezeObj 1 rfl rfl ?_
  repeat (first | refine AWp.seq ?_ | refine AWp.block ?_ | refine AWp.skip ?_)
  refine AWp.mono (Q := fun e s => e = .normal ∧ Sub ⟨[(1, .ptr f.cells), (2, .obj 2 0), (3, .obj 3 0)], [(2, .cells [nilV, nilV, nilV]), (3, .cells [natsL (ordF (scF f) f.Blocks.length), nilV, .sl 12 f.Blocks.length]), (12, rowG f.Blocks.length (fun _ => 0))]⟩ s) ?_ ?_
  · refine AWp.quietFirst (.q 0 (.q 2 (.q 3 (.q 4 (.c 1 false (.c 5 false (.c 6 true (.c 7 false (.c 8 true .fin .no) .no) (.c 7 false (.c 6 true (.c 8 true .fin .no) .no) .no)) (.c 7 false (.c 5 false (.c 6 true (.c 8 true .fin .no) .no) .no) .no)) (.c 5 false (.c 1 false (.c 6 true (.c 7 false (.c 8 true .fin .no) .no) (.c 7 false (.c 6 true (.c 8 true .fin .no) .no) .no)) (.c 7 false (.c 1 false (.c 6 true (.c 8 true .fin .no) .no) .no) .no)) (.c 7 false (.c 1 false (.c 5 false (.c 6 true (.c 8 true .fin .no) .no) .no) (.c 5 false (.c 1 false (.c 6 true (.c 8 true .fin .no) .no) .no) .no)) .no))))))) [0, 2, 3, 4] [] mixed (by kernel_rfl) ?_
    repeat' (first | exact trivial | refine And.intro ?_ ?_ | refine CallX.pure (c_order f h.e) rfl rfl rfl ?_)
    all_goals first | exact rfl | exact Int.natCast_nonneg _ | (simp only [Int.toNat_natCast]; omega) | skip
    all_goals
      intro _
      refine And.intro rfl (And.intro ?_ (And.intro rfl (And.intro ?_ (And.intro rfl (And.intro ?_ (And.intro ⟨_, _, rfl, rfl, fun i hi => rfl⟩ (And.intro trivial trivial)))))))
      all_goals repeat' (first | exact rfl | exact trivial | refine And.intro ?_ ?_)
  rintro _ _ ⟨rfl, hs⟩
  refine AWp.weaken hs ?_
  repeat (first | refine AWp.seq ?_ | refine AWp.block ?_ | refine AWp.skip ?_)
  refine AWp.region ?_
  refine CallX.pure (c_idoms f h.e h.o h.d) rfl rfl rfl ?_
  intro _
  repeat (first | refine AWp.seq ?_ | refine AWp.block ?_ | refine AWp.skip ?_)
  refine AWp.region ?_
  intro _
  repeat (first | refine AWp.seq ?_ | refine AWp.block ?_ | refine AWp.skip ?_)
  refine AWp.loop (fun k : Nat => ⟨[(1, .ptr f.cells), (2, .obj 2 0), (3, .obj 3 0), (21, .i64 f.Blocks.length), (22, .i64 k)], [(2, .cells [nilV, nilV, nilV]), (3, .cells [natsL (ordF (scF f) f.Blocks.length), idmV f d, .sl 12 f.Blocks.length]), (12, depR f k)]⟩) (fun k => k ≤ f.Blocks.length) (fun k => f.Blocks.length - k) 0 (Nat.zero_le _) ?_ ?_
  · refine And.intro ?_ (And.intro rfl (And.intro ?_ (And.intro rfl (And.intro ?_ (And.intro ⟨_, _, rfl, rfl, fun i hi => rfl⟩ (And.intro trivial trivial))))))
    all_goals repeat' (first | exact rfl | exact trivial | refine And.intro ?_ ?_)
  intro k hk
  repeat (first | refine AWp.seq ?_ | refine AWp.block ?_ | refine AWp.skip ?_)
  refine AWp.region ?_
  intro _
  repeat (first | refine AWp.seq ?_ | refine AWp.block ?_ | refine AWp.skip ?_)
  refine AWp.cond (And.intro (fun h1 => ?_) (fun h1 => ?_))
  · have hk' : k < f.Blocks.length := Int.ofNat_lt.1 (of_decide_eq_true h1)
    repeat (first | refine AWp.seq ?_ | refine AWp.block ?_ | refine AWp.skip ?_)
    refine AWp.region ?_
    intro _
    repeat (first | refine AWp.seq ?_ | refine AWp.block ?_ | refine AWp.skip ?_)
    refine AWp.region ?_
    refine CallX.pure (c_headed f h k hk') rfl rfl rfl ?_
    intro _
    repeat (first | refine AWp.seq ?_ | refine AWp.block ?_ | refine AWp.skip ?_)
    refine AWp.cond (And.intro (fun h2 => ?_) (fun h2 => ?_))
    · have hn : ¬ Headed (scF f) f.Blocks.length k := by
        have h2 : (!decide (Headed (scF f) f.Blocks.length k)) = true := h2
        simpa using h2
      refine AWp.exit ?_
      repeat (first | refine AWp.seq ?_ | refine AWp.block ?_ | refine AWp.skip ?_)
      refine AWp.region ?_
      intro _
      refine round_end (k + 1) hk' ?_ (by omega)
      refine And.intro ?_ (And.intro rfl (And.intro ?_ (And.intro rfl (And.intro ?_ (And.intro ⟨_, _, rfl, rfl, fun i hi => ?_⟩ (And.intro trivial trivial))))))
      · repeat' (first | exact rfl | exact trivial | exact congrArg (fun z => some (AV.i64 z)) (wrap_succ hk' hbl) | refine And.intro ?_ ?_)
      · repeat' (first | exact rfl | exact trivial | refine And.intro ?_ ?_)
      · repeat' (first | exact rfl | exact trivial | refine And.intro ?_ ?_)
      · exact congrArg (fun n : Nat => intC (n : Int)) (depF_no hn i)
    have hh : Headed (scF f) f.Blocks.length k := by
      have h2 : (!decide (Headed (scF f) f.Blocks.length k)) = false := h2
      simpa using h2
    have hL := loopF_ok (B := 48) h.pl hk'
    have hLl := (nodup_len _ _ hL.nodup hL.lt).1
    have hLm : (loopF (scF f) f.Blocks.length 48 k).length ≤ maxLen := by omega
    repeat (first | refine AWp.seq ?_ | refine AWp.block ?_ | refine AWp.skip ?_)
    refine AWp.region ?_
    refine CallX.pure (c_loop f h k hk') rfl rfl rfl ?_
    intro _
    repeat (first | refine AWp.seq ?_ | refine AWp.block ?_ | refine AWp.skip ?_)
    refine AWp.loop (fun j : Nat => ⟨[(1, .ptr f.cells), (2, .obj 2 0), (3, .obj 3 0), (21, .i64 f.Blocks.length), (22, .i64 k), (35, natsL (loopF (scF f) f.Blocks.length 48 k)), (36, .i64 (loopF (scF f) f.Blocks.length 48 k).length), (37, .i64 j)], [(2, .cells [nilV, nilV, nilV]), (3, .cells [natsL (ordF (scF f) f.Blocks.length), idmV f d, .sl 12 f.Blocks.length]), (12, depL f (loopF (scF f) f.Blocks.length 48 k) k j)]⟩) (fun j => j ≤ (loopF (scF f) f.Blocks.length 48 k).length) (fun j => (loopF (scF f) f.Blocks.length 48 k).length - j) 0 (Nat.zero_le _) ?_ ?_
    · refine And.intro ?_ (And.intro rfl (And.intro ?_ (And.intro rfl (And.intro ?_ (And.intro ⟨_, _, rfl, rfl, fun i hi => ?_⟩ (And.intro trivial trivial))))))
      · repeat' (first | exact rfl | exact trivial | refine And.intro ?_ ?_)
      · repeat' (first | exact rfl | exact trivial | refine And.intro ?_ ?_)
      · repeat' (first | exact rfl | exact trivial | refine And.intro ?_ ?_)
      · exact congrArg (fun n : Nat => intC (n : Int)) depG_zero
    intro j hj
    repeat (first | refine AWp.seq ?_ | refine AWp.block ?_ | refine AWp.skip ?_)
    refine AWp.region ?_
    intro _
    repeat (first | refine AWp.seq ?_ | refine AWp.block ?_ | refine AWp.skip ?_)
    refine AWp.cond (And.intro (fun h3 => ?_) (fun h3 => ?_))
    · have hj' : j < (loopF (scF f) f.Blocks.length 48 k).length := Int.ofNat_lt.1 (of_decide_eq_true h3)
      have hx : (loopF (scF f) f.Blocks.length 48 k).getD j 0 < f.Blocks.length := hL.lt _ (by rw [List.getD_eq_getElem?_getD, List.getElem?_eq_getElem hj']; exact List.getElem_mem hj')
      have hle := depG_le (sc := scF f) (n := f.Blocks.length) (L := loopF (scF f) f.Blocks.length 48 k) (k := k) (j := j) (x := (loopF (scF f) f.Blocks.length 48 k).getD j 0)
      repeat (first | refine AWp.seq ?_ | refine AWp.block ?_ | refine AWp.skip ?_)
      refine AWp.region ?_
      refine And.intro (fun _ => And.intro (Int.natCast_nonneg _) (Int.ofNat_lt.2 hj')) ?_
      intro _
      repeat (first | refine AWp.seq ?_ | refine AWp.block ?_ | refine AWp.skip ?_)
      refine AWp.region ?_
      repeat' refine And.intro ?_ ?_
      all_goals first | exact fun h => h | exact gT | exact gF | exact fun _ => And.intro (Int.natCast_nonneg _) (Int.ofNat_lt.2 hx) | exact fun _ => hx | exact hx | skip
      intro _
      repeat (first | refine AWp.seq ?_ | refine AWp.block ?_ | refine AWp.skip ?_)
      refine AWp.region ?_
      intro _
      refine round_end (j + 1) hj' ?_ (by omega)
      refine And.intro ?_ (And.intro rfl (And.intro ?_ (And.intro rfl (And.intro ?_ (And.intro ⟨_, _, rfl, rfl, fun i hi => ?_⟩ (And.intro trivial trivial))))))
      · repeat' (first | exact rfl | exact trivial | exact congrArg (fun z => some (AV.i64 z)) (wrap_succ hj' hLm) | refine And.intro ?_ ?_)
      · repeat' (first | exact rfl | exact trivial | refine And.intro ?_ ?_)
      · repeat' (first | exact rfl | exact trivial | refine And.intro ?_ ?_)
      · show intC ((depG (scF f) f.Blocks.length (loopF (scF f) f.Blocks.length 48 k) k (j + 1) i : Nat) : Int) = if i = (((loopF (scF f) f.Blocks.length 48 k).getD j 0 : Nat) : Int).toNat then intC (IntKind.i64.wrap (((depG (scF f) f.Blocks.length (loopF (scF f) f.Blocks.length 48 k) k j (((loopF (scF f) f.Blocks.length 48 k).getD j 0 : Nat) : Int).toNat : Nat) : Int) + 1)) else intC ((depG (scF f) f.Blocks.length (loopF (scF f) f.Blocks.length 48 k) k j i : Nat) : Int)
        rw [Int.toNat_natCast, depG_step hL.nodup hj']
        by_cases e : i = (loopF (scF f) f.Blocks.length 48 k).getD j 0
        · have hle2 := depG_le (sc := scF f) (n := f.Blocks.length) (L := loopF (scF f) f.Blocks.length 48 k) (k := k) (j := j) (x := i)
          rw [if_pos e, if_pos e, ← e, wrap_in (by omega) (by omega)]
          rfl
        · rw [if_neg e, if_neg e]
    have hj3 : ¬ (j : Int) < (loopF (scF f) f.Blocks.length 48 k).length := of_decide_eq_false h3
    obtain rfl : j = (loopF (scF f) f.Blocks.length 48 k).length := by omega
    refine AWp.exit ?_
    repeat (first | refine AWp.seq ?_ | refine AWp.block ?_ | refine AWp.skip ?_)
    refine AWp.region ?_
    intro _
    refine round_end (k + 1) hk' ?_ (by omega)
    refine And.intro ?_ (And.intro rfl (And.intro ?_ (And.intro rfl (And.intro ?_ (And.intro ⟨_, _, rfl, rfl, fun i hi => ?_⟩ (And.intro trivial trivial))))))
    · repeat' (first | exact rfl | exact trivial | exact congrArg (fun z => some (AV.i64 z)) (wrap_succ hk' hbl) | refine And.intro ?_ ?_)
    · repeat' (first | exact rfl | exact trivial | refine And.intro ?_ ?_)
    · repeat' (first | exact rfl | exact trivial | refine And.intro ?_ ?_)
    · exact (congrArg (fun n : Nat => intC (n : Int)) (depG_all (B := 48) h.pl hk' hh i)).symm
  have hk3 : ¬ (k : Int) < f.Blocks.length := of_decide_eq_false h1
  obtain rfl : k = f.Blocks.length := by omega
  refine AWp.exit ?_
  refine AWp.freeze 12 (fun x => natC (depF (scF f) f.Blocks.length f.Blocks.length x)) rfl (fun i hi => rfl) ?_
  repeat (first | refine AWp.seq ?_ | refine AWp.block ?_ | refine AWp.skip ?_)
  refine AWp.region ?_
  intro _
  refine AWp.ret ⟨Or.inl rfl, rfl, ?_⟩
  intro _
  rfl
theorem c_Dominators (f : Fun) (m : Mch) (hok : Fun.ok f) {d : Nat → Int} (h : TrOk f d) (h0 : flwF f m = 0) : ACallIs B.P 15 [f.av, m.av] (.tup [treeV f d, .i64 0]) := by
  have hc := c_FlowCheck f m hok
  rw [h0] at hc
  refine ACallIs.enter B _ _ Try.func15 rfl rfl Try.ntmps15 Try.results15 rfl fun hreal => ?_
  clear hreal
  repeat (first | refine AWp.seq ?_ | refine AWp.block ?_ | refine AWp.skip ?_)
  refine AWp.region ?_
  intro _
  refine AWp.freezeObj 2 rfl rfl ?_
  refine AWp.freezeObj 3 rfl rfl ?_
  repeat (first | refine AWp.seq ?_ | refine AWp.block ?_ | refine AWp.skip ?_)
  refine AWp.region ?_
  refine CallX.pure hc rfl rfl rfl ?_
  intro _
  repeat (first | refine AWp.seq ?_ | refine AWp.block ?_ | refine AWp.skip ?_)
  refine AWp.region ?_
  intro _
  repeat (first | refine AWp.seq ?_ | refine AWp.block ?_ | refine AWp.skip ?_)
  refine AWp.cond (And.intro (fun h1 => ?_) (fun h1 => ?_))
  · cases h1
  repeat (first | refine AWp.seq ?_ | refine AWp.block ?_ | refine AWp.skip ?_)
  refine AWp.region ?_
  refine CallX.pure (c_tree f h) rfl rfl rfl ?_
  intro _
  refine AWp.ret ⟨Or.inl rfl, rfl, ?_⟩
  intro _
  rfl
theorem c_DominatorsNo (f : Fun) (m : Mch) (hok : Fun.ok f) (h0 : flwF f m ≠ 0) : ACallIs B.P 15 [f.av, m.av] (.tup [.agg [nilV, nilV, nilV], .i64 (flwF f m)]) := by
  refine ACallIs.enter B _ _ Try.func15 rfl rfl Try.ntmps15 Try.results15 rfl fun hreal => ?_
  clear hreal
  repeat (first | refine AWp.seq ?_ | refine AWp.block ?_ | refine AWp.skip ?_)
  refine AWp.region ?_
  intro _
  refine AWp.freezeObj 2 rfl rfl ?_
  refine AWp.freezeObj 3 rfl rfl ?_
  repeat (first | refine AWp.seq ?_ | refine AWp.block ?_ | refine AWp.skip ?_)
  refine AWp.region ?_
  refine CallX.pure (c_FlowCheck f m hok) rfl rfl rfl ?_
  intro _
  repeat (first | refine AWp.seq ?_ | refine AWp.block ?_ | refine AWp.skip ?_)
  refine AWp.region ?_
  intro _
  repeat (first | refine AWp.seq ?_ | refine AWp.block ?_ | refine AWp.skip ?_)
  refine AWp.cond (And.intro (fun h1 => ?_) (fun h1 => ?_))
  · repeat (first | refine AWp.seq ?_ | refine AWp.block ?_ | refine AWp.skip ?_)
    refine AWp.region ?_
    intro _
    refine AWp.ret ⟨Or.inl rfl, rfl, ?_⟩
    intro _
    rfl
  exact absurd (show (flwF f m != 0) = false from h1) (by simpa using h0)
end Go.Proofs.Ytgahffjkaechmaa

/- Contract of the document's walk. Condition: the sizes, the edges' goals. -/
namespace Go.Proofs.Ytgahffjkaechmaa
open Go Go.Abs Go.RowKit Go.Abs.Gra

set_option maxHeartbeats 1000000 in
theorem m_walk (f : Fun) (hE : EdgOk f) : ∀ (k : Nat) (m : Nat → Bool) (P : List Nat) (b : Nat), b < f.Blocks.length → m b = false → left m f.Blocks.length ≤ k → P.length + left m f.Blocks.length ≤ 1000 →
    ACallM B.P 51 ⟨[f.av, .i64 b, .sl 1001 P.length, .sl 1002 f.Blocks.length], [(1001, rowN P), (1002, rowB f.Blocks.length m)], .sl 48 (dfs (scF f) k m P b).2.length, [(48, rowN (dfs (scF f) k m P b).2), (1002, rowB f.Blocks.length (dfs (scF f) k m P b).1)]⟩
  | 0, m, P, b, hb, hm, hk, hP => by have := left_pos hm hb; omega
  | k + 1, m, P, b, hb, hm, hk, hP => by
    have hls := left_set hm hb
    have hel : (f.Blocks.getD b default).Edges.length ≤ maxLen := by have := hE.siz.edges b hb; unfold maxLen; omega
    refine ACallM.enter B _ _ Try.func51 rfl rfl Try.ntmps51 Try.results51 rfl ?_ fun hreal => ?_
    · refine And.intro ?_ (And.intro ?_ ?_)
      all_goals repeat' (first | exact rfl | exact trivial | refine And.intro ?_ ?_)
    clear hreal
    refine AWp.seq (AWp.region ?_)
    intro _
    refine AWp.freezeObj 4 rfl rfl ?_
    refine AWp.rename 1001 60 rfl rfl ?_
    repeat (first | refine AWp.seq ?_ | refine AWp.block ?_ | refine AWp.skip ?_)
    refine AWp.region ?_
    refine And.intro (fun _ => And.intro (Int.natCast_nonneg _) (Int.ofNat_lt.2 hb)) ?_
    refine And.intro (by rw [Int.toNat_natCast]; exact hb) ?_
    intro _
    repeat (first | refine AWp.seq ?_ | refine AWp.block ?_ | refine AWp.skip ?_)
    refine AWp.region ?_
    intro _
    repeat (first | refine AWp.seq ?_ | refine AWp.block ?_ | refine AWp.skip ?_)
    refine AWp.loop (fun j : Nat => ⟨[(1, .i64 b), (2, .sl 60 (dfsF (scF f) k ((scF f b).take j) (setB m b) P).2.length), (3, .sl 1002 f.Blocks.length), (4, .ptr f.cells), (9, .i64 j)], [(60, rowN (dfsF (scF f) k ((scF f b).take j) (setB m b) P).2), (1002, rowB f.Blocks.length (dfsF (scF f) k ((scF f b).take j) (setB m b) P).1)]⟩) (fun j => j ≤ (f.Blocks.getD b default).Edges.length) (fun j => (f.Blocks.getD b default).Edges.length - j) 0 (Nat.zero_le _) ?_ ?_
    · rw [show dfsF (scF f) k ((scF f b).take 0) (setB m b) P = (setB m b, P) from rfl]
      refine And.intro ?_ (And.intro ⟨_, _, rfl, rfl, fun i hi => ?_⟩ (And.intro trivial (And.intro ⟨_, _, rfl, rfl, fun i hi => ?_⟩ (And.intro trivial trivial))))
      · repeat' (first | exact rfl | exact trivial | refine And.intro ?_ ?_)
      · first | rfl | exact absurd hi (Nat.not_lt_zero _)
      · show [AV.bool (setB m b i)] = if i = ((b : Nat) : Int).toNat then [AV.bool true] else [AV.bool (m i)]
        rw [Int.toNat_natCast]; exact setB_row
    intro j hj
    obtain ⟨hD1, hD2⟩ := dfsF_len' (n := f.Blocks.length) hE.sc k (setB m b) P (l := (scF f b).take j) fun t ht => hE.sc b t hb (List.mem_of_mem_take ht)
    have hD3 := left_mono hD2 f.Blocks.length
    repeat (first | refine AWp.seq ?_ | refine AWp.block ?_ | refine AWp.skip ?_)
    refine AWp.region ?_
    refine And.intro (fun _ => And.intro (Int.natCast_nonneg _) (Int.ofNat_lt.2 hb)) ?_
    intro _
    repeat (first | refine AWp.seq ?_ | refine AWp.block ?_ | refine AWp.skip ?_)
    refine AWp.cond (And.intro (fun h => ?_) (fun h => ?_))
    · have hj' : j < (f.Blocks.getD b default).Edges.length := Int.ofNat_lt.1 (of_decide_eq_true h)
      obtain ⟨ht1, ht2, ht3⟩ := hE.nat hb hj'
      have hS : dfsF (scF f) k ((scF f b).take (j + 1)) (setB m b) P = if (dfsF (scF f) k ((scF f b).take j) (setB m b) P).1 ((f.Blocks.getD b default).Edges.getD j default).Block.toNat = true then dfsF (scF f) k ((scF f b).take j) (setB m b) P else dfs (scF f) k (dfsF (scF f) k ((scF f b).take j) (setB m b) P).1 (dfsF (scF f) k ((scF f b).take j) (setB m b) P).2 ((f.Blocks.getD b default).Edges.getD j default).Block.toNat := by
        rw [take_succ_0 (by rw [scF_len]; exact hj'), scF_get hj', dfsF_snoc]
      repeat (first | refine AWp.seq ?_ | refine AWp.block ?_ | refine AWp.skip ?_)
      refine AWp.region ?_
      refine And.intro (fun _ => And.intro (Int.natCast_nonneg _) (Int.ofNat_lt.2 hb)) ?_
      refine And.intro (fun _ => And.intro (Int.natCast_nonneg _) (Int.ofNat_lt.2 hj')) ?_
      intro _
      repeat (first | refine AWp.seq ?_ | refine AWp.block ?_ | refine AWp.skip ?_)
      refine AWp.region ?_
      refine And.intro (fun _ => And.intro (by show (0 : Int) ≤ ((f.Blocks.getD b default).Edges.getD j default).Block; omega) (by show ((f.Blocks.getD b default).Edges.getD j default).Block < f.Blocks.length; omega)) ?_
      refine And.intro (fun _ => ht3) ?_
      intro _
      repeat (first | refine AWp.seq ?_ | refine AWp.block ?_ | refine AWp.skip ?_)
      refine AWp.cond (And.intro (fun hm => ?_) (fun hm => ?_))
      · have hm : (dfsF (scF f) k ((scF f b).take j) (setB m b) P).1 ((f.Blocks.getD b default).Edges.getD j default).Block.toNat = false := by simpa using hm
        rw [hm, if_neg (by decide)] at hS
        have hc := m_walk f hE k (dfsF (scF f) k ((scF f b).take j) (setB m b) P).1 (dfsF (scF f) k ((scF f b).take j) (setB m b) P).2 ((f.Blocks.getD b default).Edges.getD j default).Block.toNat ht3 hm (by omega) (by omega)
        rw [ht1] at hc
        repeat (first | refine AWp.seq ?_ | refine AWp.block ?_ | refine AWp.skip ?_)
        refine AWp.region ?_
        refine CallX.lend hc [(1001, 60), (1002, 1002), (48, 48)] rfl (And.intro rfl (And.intro rfl trivial)) rfl ?_
        intro _
        refine AWp.rename 48 60 rfl rfl ?_
        repeat (first | refine AWp.seq ?_ | refine AWp.block ?_ | refine AWp.skip ?_)
        refine AWp.region ?_
        intro _
        refine round_end (j + 1) hj' ?_ (by omega)
        rw [hS]
        refine And.intro ?_ (And.intro ⟨_, _, rfl, rfl, fun i hi => rfl⟩ (And.intro trivial (And.intro ⟨_, _, rfl, rfl, fun i hi => rfl⟩ (And.intro trivial trivial))))
        repeat' (first | exact rfl | exact trivial | exact congrArg (fun z => some (AV.i64 z)) (wrap_succ hj' hel) | refine And.intro ?_ ?_)
      · have hm : (dfsF (scF f) k ((scF f b).take j) (setB m b) P).1 ((f.Blocks.getD b default).Edges.getD j default).Block.toNat = true := by simpa using hm
        rw [hm, if_pos rfl] at hS
        repeat (first | refine AWp.seq ?_ | refine AWp.block ?_ | refine AWp.skip ?_)
        refine AWp.region ?_
        intro _
        refine round_end (j + 1) hj' ?_ (by omega)
        rw [hS]
        refine And.intro ?_ (And.intro ⟨_, _, rfl, rfl, fun i hi => rfl⟩ (And.intro trivial (And.intro ⟨_, _, rfl, rfl, fun i hi => rfl⟩ (And.intro trivial trivial))))
        repeat' (first | exact rfl | exact trivial | exact congrArg (fun z => some (AV.i64 z)) (wrap_succ hj' hel) | refine And.intro ?_ ?_)
    have hj3 : ¬ (j : Int) < (f.Blocks.getD b default).Edges.length := of_decide_eq_false h
    obtain rfl : j = (f.Blocks.getD b default).Edges.length := by omega
    have hT : (scF f b).take (f.Blocks.getD b default).Edges.length = scF f b := by rw [← scF_len]; exact List.take_length
    rw [hT] at hD1 hD2 hD3 ⊢
    refine AWp.exit ?_
    repeat (first | refine AWp.seq ?_ | refine AWp.block ?_ | refine AWp.skip ?_)
    refine AWp.region ?_
    refine And.intro (Nat.le_refl _) (And.intro (fun i hi => ?_) (And.intro rfl (And.intro (by omega) ?_)))
    · have e : i = 0 := by omega
      subst e; rfl
    intro _
    have hlen : ((dfsF (scF f) k (scF f b) (setB m b) P).2 ++ [b]).length = (dfsF (scF f) k (scF f b) (setB m b) P).2.length + 1 := by simp
    refine AWp.ret ⟨Or.inl rfl, ?_⟩
    rw [dfs_succ]
    intro _
    refine And.intro (congrArg (fun n => AV.sl 48 n) hlen.symm) (And.intro rfl (And.intro ⟨_, _, rfl, hlen.symm, fun i hi => snocN_row hi⟩ (And.intro trivial (And.intro ⟨_, _, rfl, rfl, fun i hi => rfl⟩ (And.intro trivial trivial)))))
set_option maxHeartbeats 1000000 in
theorem m_walk0 (f : Fun) (hE : EdgOk f) (k : Nat) (m : Nat → Bool) (P : List Nat) (b : Nat) (hP0 : P = []) (hb : b < f.Blocks.length) (hm : m b = false) (hk : left m f.Blocks.length ≤ k + 1) (hP : P.length + left m f.Blocks.length ≤ 1000) :
    ACallM B.P 51 ⟨[f.av, .i64 b, .val (.slice none 0 0), .sl 1002 f.Blocks.length], [(1002, rowB f.Blocks.length m)], .sl 48 (dfs (scF f) (k + 1) m P b).2.length, [(48, rowN (dfs (scF f) (k + 1) m P b).2), (1002, rowB f.Blocks.length (dfs (scF f) (k + 1) m P b).1)]⟩ := by
  have hls := left_set hm hb
  have hel : (f.Blocks.getD b default).Edges.length ≤ maxLen := by have := hE.siz.edges b hb; unfold maxLen; omega
  refine ACallM.enter B _ _ Try.func51 rfl rfl Try.ntmps51 Try.results51 rfl ?_ fun hreal => ?_
  · refine And.intro ?_ (And.intro ?_ ?_)
    all_goals repeat' (first | exact rfl | exact trivial | refine And.intro ?_ ?_)
  clear hreal
  refine AWp.seq (AWp.region ?_)
  intro _
  refine AWp.freezeObj 4 rfl rfl ?_
  refine AWp.adopt 2 60 3 1 rfl rfl rfl ?_
  repeat (first | refine AWp.seq ?_ | refine AWp.block ?_ | refine AWp.skip ?_)
  refine AWp.region ?_
  refine And.intro (fun _ => And.intro (Int.natCast_nonneg _) (Int.ofNat_lt.2 hb)) ?_
  refine And.intro (by rw [Int.toNat_natCast]; exact hb) ?_
  intro _
  repeat (first | refine AWp.seq ?_ | refine AWp.block ?_ | refine AWp.skip ?_)
  refine AWp.region ?_
  intro _
  repeat (first | refine AWp.seq ?_ | refine AWp.block ?_ | refine AWp.skip ?_)
  refine AWp.loop (fun j : Nat => ⟨[(1, .i64 b), (2, .sl 60 (dfsF (scF f) k ((scF f b).take j) (setB m b) P).2.length), (3, .sl 1002 f.Blocks.length), (4, .ptr f.cells), (9, .i64 j)], [(60, rowN (dfsF (scF f) k ((scF f b).take j) (setB m b) P).2), (1002, rowB f.Blocks.length (dfsF (scF f) k ((scF f b).take j) (setB m b) P).1)]⟩) (fun j => j ≤ (f.Blocks.getD b default).Edges.length) (fun j => (f.Blocks.getD b default).Edges.length - j) 0 (Nat.zero_le _) ?_ ?_
  · subst hP0
    rw [show dfsF (scF f) k ((scF f b).take 0) (setB m b) [] = (setB m b, []) from rfl]
    refine And.intro ?_ (And.intro ⟨_, _, rfl, rfl, fun i hi => ?_⟩ (And.intro trivial (And.intro ⟨_, _, rfl, rfl, fun i hi => ?_⟩ (And.intro trivial trivial))))
    · repeat' (first | exact rfl | exact trivial | refine And.intro ?_ ?_)
    · first | rfl | exact absurd hi (Nat.not_lt_zero _)
    · show [AV.bool (setB m b i)] = if i = ((b : Nat) : Int).toNat then [AV.bool true] else [AV.bool (m i)]
      rw [Int.toNat_natCast]; exact setB_row
  intro j hj
  obtain ⟨hD1, hD2⟩ := dfsF_len' (n := f.Blocks.length) hE.sc k (setB m b) P (l := (scF f b).take j) fun t ht => hE.sc b t hb (List.mem_of_mem_take ht)
  have hD3 := left_mono hD2 f.Blocks.length
  repeat (first | refine AWp.seq ?_ | refine AWp.block ?_ | refine AWp.skip ?_)
  refine AWp.region ?_
  refine And.intro (fun _ => And.intro (Int.natCast_nonneg _) (Int.ofNat_lt.2 hb)) ?_
  intro _
  repeat (first | refine AWp.seq ?_ | refine AWp.block ?_ | refine AWp.skip ?_)
  refine AWp.cond (And.intro (fun h => ?_) (fun h => ?_))
  · have hj' : j < (f.Blocks.getD b default).Edges.length := Int.ofNat_lt.1 (of_decide_eq_true h)
    obtain ⟨ht1, ht2, ht3⟩ := hE.nat hb hj'
    have hS : dfsF (scF f) k ((scF f b).take (j + 1)) (setB m b) P = if (dfsF (scF f) k ((scF f b).take j) (setB m b) P).1 ((f.Blocks.getD b default).Edges.getD j default).Block.toNat = true then dfsF (scF f) k ((scF f b).take j) (setB m b) P else dfs (scF f) k (dfsF (scF f) k ((scF f b).take j) (setB m b) P).1 (dfsF (scF f) k ((scF f b).take j) (setB m b) P).2 ((f.Blocks.getD b default).Edges.getD j default).Block.toNat := by
      rw [take_succ_0 (by rw [scF_len]; exact hj'), scF_get hj', dfsF_snoc]
    repeat (first | refine AWp.seq ?_ | refine AWp.block ?_ | refine AWp.skip ?_)
    refine AWp.region ?_
    refine And.intro (fun _ => And.intro (Int.natCast_nonneg _) (Int.ofNat_lt.2 hb)) ?_
    refine And.intro (fun _ => And.intro (Int.natCast_nonneg _) (Int.ofNat_lt.2 hj')) ?_
    intro _
    repeat (first | refine AWp.seq ?_ | refine AWp.block ?_ | refine AWp.skip ?_)
    refine AWp.region ?_
    refine And.intro (fun _ => And.intro (by show (0 : Int) ≤ ((f.Blocks.getD b default).Edges.getD j default).Block; omega) (by show ((f.Blocks.getD b default).Edges.getD j default).Block < f.Blocks.length; omega)) ?_
    refine And.intro (fun _ => ht3) ?_
    intro _
    repeat (first | refine AWp.seq ?_ | refine AWp.block ?_ | refine AWp.skip ?_)
    refine AWp.cond (And.intro (fun hm => ?_) (fun hm => ?_))
    · have hm : (dfsF (scF f) k ((scF f b).take j) (setB m b) P).1 ((f.Blocks.getD b default).Edges.getD j default).Block.toNat = false := by simpa using hm
      rw [hm, if_neg (by decide)] at hS
      have hc := m_walk f hE k (dfsF (scF f) k ((scF f b).take j) (setB m b) P).1 (dfsF (scF f) k ((scF f b).take j) (setB m b) P).2 ((f.Blocks.getD b default).Edges.getD j default).Block.toNat ht3 hm (by omega) (by omega)
      rw [ht1] at hc
      repeat (first | refine AWp.seq ?_ | refine AWp.block ?_ | refine AWp.skip ?_)
      refine AWp.region ?_
      refine CallX.lend hc [(1001, 60), (1002, 1002), (48, 48)] rfl (And.intro rfl (And.intro rfl trivial)) rfl ?_
      intro _
      refine AWp.rename 48 60 rfl rfl ?_
      repeat (first | refine AWp.seq ?_ | refine AWp.block ?_ | refine AWp.skip ?_)
      refine AWp.region ?_
      intro _
      refine round_end (j + 1) hj' ?_ (by omega)
      rw [hS]
      refine And.intro ?_ (And.intro ⟨_, _, rfl, rfl, fun i hi => rfl⟩ (And.intro trivial (And.intro ⟨_, _, rfl, rfl, fun i hi => rfl⟩ (And.intro trivial trivial))))
      repeat' (first | exact rfl | exact trivial | exact congrArg (fun z => some (AV.i64 z)) (wrap_succ hj' hel) | refine And.intro ?_ ?_)
    · have hm : (dfsF (scF f) k ((scF f b).take j) (setB m b) P).1 ((f.Blocks.getD b default).Edges.getD j default).Block.toNat = true := by simpa using hm
      rw [hm, if_pos rfl] at hS
      repeat (first | refine AWp.seq ?_ | refine AWp.block ?_ | refine AWp.skip ?_)
      refine AWp.region ?_
      intro _
      refine round_end (j + 1) hj' ?_ (by omega)
      rw [hS]
      refine And.intro ?_ (And.intro ⟨_, _, rfl, rfl, fun i hi => rfl⟩ (And.intro trivial (And.intro ⟨_, _, rfl, rfl, fun i hi => rfl⟩ (And.intro trivial trivial))))
      repeat' (first | exact rfl | exact trivial | exact congrArg (fun z => some (AV.i64 z)) (wrap_succ hj' hel) | refine And.intro ?_ ?_)
  have hj3 : ¬ (j : Int) < (f.Blocks.getD b default).Edges.length := of_decide_eq_false h
  obtain rfl : j = (f.Blocks.getD b default).Edges.length := by omega
  have hT : (scF f b).take (f.Blocks.getD b default).Edges.length = scF f b := by rw [← scF_len]; exact List.take_length
  rw [hT] at hD1 hD2 hD3 ⊢
  refine AWp.exit ?_
  repeat (first | refine AWp.seq ?_ | refine AWp.block ?_ | refine AWp.skip ?_)
  refine AWp.region ?_
  refine And.intro (Nat.le_refl _) (And.intro (fun i hi => ?_) (And.intro rfl (And.intro (by omega) ?_)))
  · have e : i = 0 := by omega
    subst e; rfl
  intro _
  have hlen : ((dfsF (scF f) k (scF f b) (setB m b) P).2 ++ [b]).length = (dfsF (scF f) k (scF f b) (setB m b) P).2.length + 1 := by simp
  refine AWp.ret ⟨Or.inl rfl, ?_⟩
  rw [dfs_succ]
  intro _
  refine And.intro (congrArg (fun n => AV.sl 48 n) hlen.symm) (And.intro rfl (And.intro ⟨_, _, rfl, hlen.symm, fun i hi => snocN_row hi⟩ (And.intro trivial (And.intro ⟨_, _, rfl, rfl, fun i hi => rfl⟩ (And.intro trivial trivial)))))
end Go.Proofs.Ytgahffjkaechmaa

/- Contracts of the law's sameInts and sameTree at equal arguments. Condition: none. -/
namespace Go.Proofs.Ytgahffjkaechmaa
open Go Go.Abs Go.RowKit Go.Abs.Gra

theorem c_sameR (n : Nat) (g : Nat → Int) (hn : n ≤ maxLen) : ACallIs B.P 27 [.ro 1 n (fun i => intC (g i)), .ro 1 n (fun i => intC (g i))] (.bool true) := by
  refine ACallIs.enter B _ _ Try.func27 rfl rfl Try.ntmps27 Try.results27 rfl fun hreal => ?_
  clear hreal
  repeat (first | refine AWp.seq ?_ | refine AWp.block ?_ | refine AWp.skip ?_)
  refine AWp.region ?_
  intro _
  repeat (first | refine AWp.seq ?_ | refine AWp.block ?_ | refine AWp.skip ?_)
  refine AWp.region ?_
  intro _
  repeat (first | refine AWp.seq ?_ | refine AWp.block ?_ | refine AWp.skip ?_)
  refine AWp.cond (And.intro (fun h => ?_) (fun h => ?_))
  · exfalso
    have h : ((n : Int) != (n : Int)) = true := h
    simp at h
  repeat (first | refine AWp.seq ?_ | refine AWp.block ?_ | refine AWp.skip ?_)
  refine AWp.region ?_
  intro _
  repeat (first | refine AWp.seq ?_ | refine AWp.block ?_ | refine AWp.skip ?_)
  refine AWp.loop (fun k : Nat => ⟨[(0, .ro 1 n (fun i => intC (g i))), (1, .ro 1 n (fun i => intC (g i))), (5, .i64 k)], []⟩) (fun k => k ≤ n) (fun k => n - k) 0 (Nat.zero_le _) ?_ ?_
  · repeat' (first | exact rfl | exact trivial | refine And.intro ?_ ?_)
  intro k hk
  repeat (first | refine AWp.seq ?_ | refine AWp.block ?_ | refine AWp.skip ?_)
  refine AWp.region ?_
  intro _
  repeat (first | refine AWp.seq ?_ | refine AWp.block ?_ | refine AWp.skip ?_)
  refine AWp.cond (And.intro (fun h1 => ?_) (fun h1 => ?_))
  · have hk' : k < n := Int.ofNat_lt.1 (of_decide_eq_true h1)
    repeat (first | refine AWp.seq ?_ | refine AWp.block ?_ | refine AWp.skip ?_)
    refine AWp.draw mixed (by kernel_rfl) ?_
    repeat' refine And.intro ?_ ?_
    all_goals first | exact fun h => h | exact gT | exact gF | exact fun _ => And.intro (Int.natCast_nonneg _) (Int.ofNat_lt.2 hk') | skip
    intro _
    repeat (first | refine AWp.seq ?_ | refine AWp.block ?_ | refine AWp.skip ?_)
    refine AWp.cond (And.intro (fun h2 => ?_) (fun h2 => ?_))
    · exfalso
      have h2 : (g (k : Int).toNat != g (k : Int).toNat) = true := h2
      simp at h2
    repeat (first | refine AWp.seq ?_ | refine AWp.block ?_ | refine AWp.skip ?_)
    refine AWp.region ?_
    intro _
    exact round_end (k + 1) hk' (by repeat' (first | exact rfl | exact trivial | exact congrArg (fun z => some (AV.i64 z)) (wrap_succ hk' hn) | refine And.intro ?_ ?_)) (by omega)
  refine AWp.exit ?_
  repeat (first | refine AWp.seq ?_ | refine AWp.block ?_ | refine AWp.skip ?_)
  refine AWp.region ?_
  intro _
  refine AWp.ret ⟨Or.inl rfl, rfl, ?_⟩
  intro _
  rfl
theorem c_sameNil : ACallIs B.P 27 [nilV, nilV] (.bool true) := by
  refine ACallIs.enter B _ _ Try.func27 rfl rfl Try.ntmps27 Try.results27 rfl fun hreal => ?_
  clear hreal
  repeat (first | refine AWp.seq ?_ | refine AWp.block ?_ | refine AWp.skip ?_)
  refine AWp.region ?_
  intro _
  repeat (first | refine AWp.seq ?_ | refine AWp.block ?_ | refine AWp.skip ?_)
  refine AWp.region ?_
  intro _
  repeat (first | refine AWp.seq ?_ | refine AWp.block ?_ | refine AWp.skip ?_)
  refine AWp.cond (And.intro (fun h => ?_) (fun h => ?_))
  · cases h
  repeat (first | refine AWp.seq ?_ | refine AWp.block ?_ | refine AWp.skip ?_)
  refine AWp.region ?_
  intro _
  repeat (first | refine AWp.seq ?_ | refine AWp.block ?_ | refine AWp.skip ?_)
  refine AWp.loop (fun k : Nat => ⟨[(0, nilV), (1, nilV), (5, .i64 (0 : Nat))], []⟩) (fun k => True) (fun k => k) 0 trivial ?_ ?_
  · repeat' (first | exact rfl | exact trivial | refine And.intro ?_ ?_)
  intro k hk
  repeat (first | refine AWp.seq ?_ | refine AWp.block ?_ | refine AWp.skip ?_)
  refine AWp.region ?_
  intro _
  repeat (first | refine AWp.seq ?_ | refine AWp.block ?_ | refine AWp.skip ?_)
  refine AWp.cond (And.intro (fun h1 => ?_) (fun h1 => ?_))
  · cases h1
  refine AWp.exit ?_
  repeat (first | refine AWp.seq ?_ | refine AWp.block ?_ | refine AWp.skip ?_)
  refine AWp.region ?_
  intro _
  refine AWp.ret ⟨Or.inl rfl, rfl, ?_⟩
  intro _
  rfl
theorem c_sameTree (f : Fun) {d : Nat → Int} (h : TrOk f d) : ACallIs B.P 17 [treeV f d, treeV f d] (.bool true) := by
  have hb := h.e.siz.blocks
  have hbl : f.Blocks.length ≤ maxLen := by unfold maxLen; omega
  have hx := c_sameR (ordF (scF f) f.Blocks.length).length (fun i => (((ordF (scF f) f.Blocks.length).getD i 0 : Nat) : Int)) (by rw [h.o.len]; exact hbl)
  have hy := c_sameR f.Blocks.length (idmR d) hbl
  have hz := c_sameR f.Blocks.length (fun x => ((depF (scF f) f.Blocks.length f.Blocks.length x : Nat) : Int)) hbl
  refine ACallIs.enter B _ _ Try.func17 rfl rfl Try.ntmps17 Try.results17 rfl fun hreal => ?_
  clear hreal
  repeat (first | refine AWp.seq ?_ | refine AWp.block ?_ | refine AWp.skip ?_)
  refine AWp.region ?_
  intro _
  refine AWp.freezeObj 2 rfl rfl ?_
  refine AWp.freezeObj 3 rfl rfl ?_
  repeat (first | refine AWp.seq ?_ | refine AWp.block ?_ | refine AWp.skip ?_)
  refine AWp.region ?_
  refine CallX.pure hx rfl rfl rfl ?_
  repeat' (first | refine And.intro ?_ ?_ | refine CallK.intro (fun _ => hy) ?_ | refine CallK.intro (fun _ => hz) ?_)
  all_goals first | exact fun h => h | exact gT | exact gF | skip
  intro _
  refine AWp.ret ⟨Or.inl rfl, rfl, ?_⟩
  intro _
  rfl
theorem c_sameTreeNil : ACallIs B.P 17 [.agg [nilV, nilV, nilV], .agg [nilV, nilV, nilV]] (.bool true) := by
  have hx := c_sameNil
  refine ACallIs.enter B _ _ Try.func17 rfl rfl Try.ntmps17 Try.results17 rfl fun hreal => ?_
  clear hreal
  repeat (first | refine AWp.seq ?_ | refine AWp.block ?_ | refine AWp.skip ?_)
  refine AWp.region ?_
  intro _
  refine AWp.freezeObj 2 rfl rfl ?_
  refine AWp.freezeObj 3 rfl rfl ?_
  repeat (first | refine AWp.seq ?_ | refine AWp.block ?_ | refine AWp.skip ?_)
  refine AWp.region ?_
  refine CallX.pure hx rfl rfl rfl ?_
  repeat' (first | refine And.intro ?_ ?_ | refine CallK.intro (fun _ => hx) ?_)
  all_goals first | exact fun h => h | exact gT | exact gF | skip
  intro _
  refine AWp.ret ⟨Or.inl rfl, rfl, ?_⟩
  intro _
  rfl
end Go.Proofs.Ytgahffjkaechmaa

/- Contract of the document's inLoop. Condition: the sizes, the edges' goals. -/
namespace Go.Proofs.Ytgahffjkaechmaa
open Go Go.Abs Go.RowKit Go.Abs.Gra

open Classical in
set_option maxHeartbeats 2000000 in
theorem c_inLoop (f : Fun) (hE : EdgOk f) (a b : Nat) (ha : a < f.Blocks.length) (hbn : b < f.Blocks.length) : ACallIs B.P 53 [f.av, .i64 a, .i64 b] (.bool (decide (Headed (scF f) f.Blocks.length a ∧ InL (scF f) f.Blocks.length a b))) := by
  have hb := hE.siz.blocks
  have hbl : f.Blocks.length ≤ maxLen := by unfold maxLen; omega
  refine ACallIs.enter B _ _ Try.func53 rfl rfl Try.ntmps53 Try.results53 rfl fun hreal => ?_
  clear hreal
  repeat (first | refine AWp.seq ?_ | refine AWp.block ?_ | refine AWp.skip ?_)
  refine AWp.region ?_
  intro _
  refine AWp.freezeObj 3 rfl rfl ?_
  repeat (first | refine AWp.seq ?_ | refine AWp.block ?_ | refine AWp.skip ?_)
  refine AWp.region ?_
  refine And.intro rfl (And.intro (Int.natCast_nonneg _) (And.intro (by simp only [Int.toNat_natCast]; omega) ?_))
  intro _
  repeat (first | refine AWp.seq ?_ | refine AWp.block ?_ | refine AWp.skip ?_)
  refine AWp.region ?_
  refine And.intro (fun _ => And.intro (Int.natCast_nonneg _) (Int.ofNat_lt.2 ha)) (And.intro (by rw [Int.toNat_natCast]; exact ha) ?_)
  intro _
  repeat (first | refine AWp.seq ?_ | refine AWp.block ?_ | refine AWp.skip ?_)
  refine AWp.region ?_
  intro _
  repeat (first | refine AWp.seq ?_ | refine AWp.block ?_ | refine AWp.skip ?_)
  refine AWp.region ?_
  intro _
  repeat (first | refine AWp.seq ?_ | refine AWp.block ?_ | refine AWp.skip ?_)
  refine AWp.loop (fun s : ((Nat → Bool) × Bool) × Nat => ⟨[(1, .i64 a), (2, .i64 b), (3, .ptr f.cells), (7, .sl 18 f.Blocks.length), (8, .bool s.1.2), (9, .i64 s.2)], [(18, rowB f.Blocks.length s.1.1)]⟩) (fun s => s.2 ≤ f.Blocks.length ∧ SrI (scF f) f.Blocks.length a s.2 0 s.1.1 s.1.2) (fun s => f.Blocks.length - s.2) ((fun x => decide (x = a), false), 0) ⟨Nat.zero_le _, SrI.start⟩ ?_ ?_
  · refine And.intro ?_ (And.intro ⟨_, _, rfl, rfl, fun i hi => ?_⟩ (And.intro trivial trivial))
    · repeat' (first | exact rfl | exact trivial | refine And.intro ?_ ?_)
    · show [AV.bool (decide (i = a))] = if i = ((a : Nat) : Int).toNat then [AV.bool true] else [AV.bool false]
      rw [Int.toNat_natCast]
      by_cases e : i = a
      · rw [if_pos e, decide_eq_true e]
      · rw [if_neg e, decide_eq_false e]
  rintro ⟨⟨m0, sm0⟩, i⟩ ⟨hi, hI0⟩
  simp only at hi hI0
  repeat (first | refine AWp.seq ?_ | refine AWp.block ?_ | refine AWp.skip ?_)
  refine AWp.region ?_
  intro _
  repeat (first | refine AWp.seq ?_ | refine AWp.block ?_ | refine AWp.skip ?_)
  refine AWp.cond (And.intro (fun h1 => ?_) (fun h1 => ?_))
  · have hi' : i < f.Blocks.length := Int.ofNat_lt.1 (of_decide_eq_true h1)
    have hel : (f.Blocks.getD i default).Edges.length ≤ maxLen := by have := hE.siz.edges i hi'; unfold maxLen; omega
    have hab := c_Above f hE (a : Int) i hi'
    repeat (first | refine AWp.seq ?_ | refine AWp.block ?_ | refine AWp.skip ?_)
    refine AWp.region ?_
    intro _
    repeat (first | refine AWp.seq ?_ | refine AWp.block ?_ | refine AWp.skip ?_)
    refine AWp.loop (fun s : ((Nat → Bool) × Bool) × Nat => ⟨[(1, .i64 a), (2, .i64 b), (3, .ptr f.cells), (7, .sl 18 f.Blocks.length), (8, .bool s.1.2), (9, .i64 i), (10, .i64 s.2)], [(18, rowB f.Blocks.length s.1.1)]⟩) (fun s => s.2 ≤ (f.Blocks.getD i default).Edges.length ∧ SrI (scF f) f.Blocks.length a i s.2 s.1.1 s.1.2) (fun s => (f.Blocks.getD i default).Edges.length - s.2) ((m0, sm0), 0) ⟨Nat.zero_le _, hI0⟩ ?_ ?_
    · refine And.intro ?_ (And.intro ⟨_, _, rfl, rfl, fun i hi => rfl⟩ (And.intro trivial trivial))
      repeat' (first | exact rfl | exact trivial | refine And.intro ?_ ?_)
    rintro ⟨⟨m, sm⟩, k⟩ ⟨hk, hI⟩
    simp only at hk hI
    repeat (first | refine AWp.seq ?_ | refine AWp.block ?_ | refine AWp.skip ?_)
    refine AWp.region ?_
    refine And.intro (fun _ => And.intro (Int.natCast_nonneg _) (Int.ofNat_lt.2 hi')) ?_
    intro _
    repeat (first | refine AWp.seq ?_ | refine AWp.block ?_ | refine AWp.skip ?_)
    refine AWp.cond (And.intro (fun h2 => ?_) (fun h2 => ?_))
    · have hk' : k < (f.Blocks.getD i default).Edges.length := Int.ofNat_lt.1 (of_decide_eq_true h2)
      obtain ⟨ht1, ht2, ht3⟩ := hE.nat hi' hk'
      have hts : (scF f i).take (k + 1) = (scF f i).take k ++ [((f.Blocks.getD i default).Edges.getD k default).Block.toNat] := by rw [take_succ_0 (by rw [scF_len]; exact hk'), scF_get hk']
      repeat (first | refine AWp.seq ?_ | refine AWp.block ?_ | refine AWp.skip ?_)
      refine AWp.region ?_
      repeat' (first | refine And.intro ?_ ?_ | refine CallK.intro (fun _ => hab) ?_)
      all_goals first | exact fun h => h | exact gT | exact gF | exact (fun _ => And.intro (Int.natCast_nonneg _) (Int.ofNat_lt.2 hi')) | exact (fun _ => And.intro (Int.natCast_nonneg _) (Int.ofNat_lt.2 hk')) | skip
      intro _
      repeat (first | refine AWp.seq ?_ | refine AWp.block ?_ | refine AWp.skip ?_)
      refine AWp.cond (And.intro (fun h3 => ?_) (fun h3 => ?_))
      · have h3 : (bif ((f.Blocks.getD i default).Edges.getD k default).Block == (a : Int) then !decide (Rch (scF f) (a : Int) i) else false) = true := h3
        have hq : ((f.Blocks.getD i default).Edges.getD k default).Block = (a : Int) := by
          cases hd : ((f.Blocks.getD i default).Edges.getD k default).Block == (a : Int) with
          | true => simpa using hd
          | false => rw [hd] at h3; cases h3
        have hD : ¬ Rch (scF f) (a : Int) i := by
          rw [hq] at h3; simpa using h3
        have hqa : ((f.Blocks.getD i default).Edges.getD k default).Block.toNat = a := by omega
        rw [hqa] at hts
        repeat (first | refine AWp.seq ?_ | refine AWp.block ?_ | refine AWp.skip ?_)
        refine AWp.region ?_
        refine And.intro (fun _ => And.intro (Int.natCast_nonneg _) (Int.ofNat_lt.2 hi')) (And.intro (by rw [Int.toNat_natCast]; exact hi') ?_)
        intro _
        repeat (first | refine AWp.seq ?_ | refine AWp.block ?_ | refine AWp.skip ?_)
        refine AWp.region ?_
        intro _
        repeat (first | refine AWp.seq ?_ | refine AWp.block ?_ | refine AWp.skip ?_)
        refine AWp.region ?_
        intro _
        refine round_end ((setB m i, true), k + 1) ⟨hk', hI.hit hi' hts hD⟩ ?_ (by show (f.Blocks.getD i default).Edges.length - (k + 1) < (f.Blocks.getD i default).Edges.length - k; omega)
        refine And.intro ?_ (And.intro ⟨_, _, rfl, rfl, fun i hi => setB_row⟩ (And.intro trivial trivial))
        repeat' (first | exact rfl | exact trivial | exact congrArg (fun z => some (AV.i64 z)) (wrap_succ hk' hel) | refine And.intro ?_ ?_)
      · have h3 : (bif ((f.Blocks.getD i default).Edges.getD k default).Block == (a : Int) then !decide (Rch (scF f) (a : Int) i) else false) = false := h3
        repeat (first | refine AWp.seq ?_ | refine AWp.block ?_ | refine AWp.skip ?_)
        refine AWp.region ?_
        intro _
        refine round_end ((m, sm), k + 1) ⟨hk', hI.miss hts fun e => ?_⟩ ?_ (by show (f.Blocks.getD i default).Edges.length - (k + 1) < (f.Blocks.getD i default).Edges.length - k; omega)
        · have hq : ((f.Blocks.getD i default).Edges.getD k default).Block = (a : Int) := by omega
          rw [hq] at h3
          simpa using h3
        · refine And.intro ?_ (And.intro ⟨_, _, rfl, rfl, fun i hi => rfl⟩ (And.intro trivial trivial))
          repeat' (first | exact rfl | exact trivial | exact congrArg (fun z => some (AV.i64 z)) (wrap_succ hk' hel) | refine And.intro ?_ ?_)
    · have hk3 : ¬ (k : Int) < (f.Blocks.getD i default).Edges.length := of_decide_eq_false h2
      refine AWp.exit ?_
      repeat (first | refine AWp.seq ?_ | refine AWp.block ?_ | refine AWp.skip ?_)
      refine AWp.region ?_
      intro _
      refine round_end ((m, sm), i + 1) ⟨hi', hI.next (by rw [scF_len]; omega)⟩ ?_ (by show f.Blocks.length - (i + 1) < f.Blocks.length - i; omega)
      refine And.intro ?_ (And.intro ⟨_, _, rfl, rfl, fun i hi => rfl⟩ (And.intro trivial trivial))
      repeat' (first | exact rfl | exact trivial | exact congrArg (fun z => some (AV.i64 z)) (wrap_succ hi' hbl) | refine And.intro ?_ ?_)
  have hi3 : ¬ (i : Int) < f.Blocks.length := of_decide_eq_false h1
  obtain rfl : i = f.Blocks.length := by omega
  refine AWp.exit ?_
  repeat (first | refine AWp.seq ?_ | refine AWp.block ?_ | refine AWp.skip ?_)
  refine AWp.region ?_
  intro _
  repeat (first | refine AWp.seq ?_ | refine AWp.block ?_ | refine AWp.skip ?_)
  refine AWp.cond (And.intro (fun h4 => ?_) (fun h4 => ?_))
  · have h4 : (!sm0) = true := h4
    have hs : sm0 = false := by simpa using h4
    subst hs
    repeat (first | refine AWp.seq ?_ | refine AWp.block ?_ | refine AWp.skip ?_)
    refine AWp.region ?_
    intro _
    refine AWp.ret ⟨Or.inl rfl, rfl, ?_⟩
    intro _
    exact tupB (decide_eq_false fun hh => hI0.none hh.1).symm
  have hs : sm0 = true := by
    have h4 : (!sm0) = false := h4
    simpa using h4
  have hH := hI0.yes hs
  have hC0 := hI0.clI
  repeat (first | refine AWp.seq ?_ | refine AWp.block ?_ | refine AWp.skip ?_)
  refine AWp.region ?_
  intro _
  repeat (first | refine AWp.seq ?_ | refine AWp.block ?_ | refine AWp.skip ?_)
  refine AWp.loop (fun s : (Nat → Bool) × Bool => ⟨[(1, .i64 a), (2, .i64 b), (3, .ptr f.cells), (7, .sl 18 f.Blocks.length), (11, .bool s.2)], [(18, rowB f.Blocks.length s.1)]⟩) (fun s => ClI (scF f) f.Blocks.length a s.1 ∧ (s.2 = false → Cl2 (scF f) a s.1 f.Blocks.length 0)) (fun s => 2 * left s.1 f.Blocks.length + s.2.toNat) (m0, true) ⟨hC0, fun h => by cases h⟩ ?_ ?_
  · refine And.intro ?_ (And.intro ⟨_, _, rfl, rfl, fun i hi => rfl⟩ (And.intro trivial trivial))
    repeat' (first | exact rfl | exact trivial | refine And.intro ?_ ?_)
  rintro ⟨o0, ch0⟩ ⟨hc0, hf0⟩
  repeat (first | refine AWp.seq ?_ | refine AWp.block ?_ | refine AWp.skip ?_)
  refine AWp.region ?_
  intro _
  repeat (first | refine AWp.seq ?_ | refine AWp.block ?_ | refine AWp.skip ?_)
  refine AWp.cond (And.intro (fun h0 => ?_) (fun h0 => ?_))
  · have h0 : ch0 = true := h0
    subst h0
    repeat (first | refine AWp.seq ?_ | refine AWp.block ?_ | refine AWp.skip ?_)
    refine AWp.region ?_
    intro _
    repeat (first | refine AWp.seq ?_ | refine AWp.block ?_ | refine AWp.skip ?_)
    refine AWp.region ?_
    intro _
    repeat (first | refine AWp.seq ?_ | refine AWp.block ?_ | refine AWp.skip ?_)
    refine AWp.loop (fun s : ((Nat → Bool) × Bool) × Nat => ⟨[(1, .i64 a), (2, .i64 b), (3, .ptr f.cells), (7, .sl 18 f.Blocks.length), (11, .bool s.1.2), (12, .i64 s.2)], [(18, rowB f.Blocks.length s.1.1)]⟩) (fun s => ClI (scF f) f.Blocks.length a s.1.1 ∧ s.2 ≤ f.Blocks.length ∧ left s.1.1 f.Blocks.length + s.1.2.toNat ≤ left o0 f.Blocks.length ∧ (s.1.2 = false → Cl2 (scF f) a s.1.1 s.2 0)) (fun s => f.Blocks.length - s.2) ((o0, false), 0) ⟨hc0, Nat.zero_le _, Nat.le_refl _, fun _ => Cl2.zero⟩ ?_ ?_
    · refine And.intro ?_ (And.intro ⟨_, _, rfl, rfl, fun i hi => rfl⟩ (And.intro trivial trivial))
      repeat' (first | exact rfl | exact trivial | refine And.intro ?_ ?_)
    rintro ⟨⟨o1, ch1⟩, i⟩ ⟨hc1, hi1, hl1, hf1⟩
    simp only at hc1 hi1 hl1 hf1
    repeat (first | refine AWp.seq ?_ | refine AWp.block ?_ | refine AWp.skip ?_)
    refine AWp.region ?_
    intro _
    repeat (first | refine AWp.seq ?_ | refine AWp.block ?_ | refine AWp.skip ?_)
    refine AWp.cond (And.intro (fun h5 => ?_) (fun h5 => ?_))
    · have hi' : i < f.Blocks.length := Int.ofNat_lt.1 (of_decide_eq_true h5)
      have hel : (f.Blocks.getD i default).Edges.length ≤ maxLen := by have := hE.siz.edges i hi'; unfold maxLen; omega
      repeat (first | refine AWp.seq ?_ | refine AWp.block ?_ | refine AWp.skip ?_)
      refine AWp.region ?_
      intro _
      repeat (first | refine AWp.seq ?_ | refine AWp.block ?_ | refine AWp.skip ?_)
      refine AWp.loop (fun s : ((Nat → Bool) × Bool) × Nat => ⟨[(1, .i64 a), (2, .i64 b), (3, .ptr f.cells), (7, .sl 18 f.Blocks.length), (11, .bool s.1.2), (12, .i64 i), (13, .i64 s.2)], [(18, rowB f.Blocks.length s.1.1)]⟩) (fun s => ClI (scF f) f.Blocks.length a s.1.1 ∧ s.2 ≤ (f.Blocks.getD i default).Edges.length ∧ left s.1.1 f.Blocks.length + s.1.2.toNat ≤ left o0 f.Blocks.length ∧ (s.1.2 = false → Cl2 (scF f) a s.1.1 i s.2)) (fun s => (f.Blocks.getD i default).Edges.length - s.2) ((o1, ch1), 0) ⟨hc1, Nat.zero_le _, hl1, hf1⟩ ?_ ?_
      · refine And.intro ?_ (And.intro ⟨_, _, rfl, rfl, fun i hi => rfl⟩ (And.intro trivial trivial))
        repeat' (first | exact rfl | exact trivial | refine And.intro ?_ ?_)
      rintro ⟨⟨o, ch⟩, k⟩ ⟨hc, hk, hl, hf⟩
      simp only at hc hk hl hf
      repeat (first | refine AWp.seq ?_ | refine AWp.block ?_ | refine AWp.skip ?_)
      refine AWp.region ?_
      refine And.intro (fun _ => And.intro (Int.natCast_nonneg _) (Int.ofNat_lt.2 hi')) ?_
      intro _
      repeat (first | refine AWp.seq ?_ | refine AWp.block ?_ | refine AWp.skip ?_)
      refine AWp.cond (And.intro (fun h6 => ?_) (fun h6 => ?_))
      · have hk' : k < (f.Blocks.getD i default).Edges.length := Int.ofNat_lt.1 (of_decide_eq_true h6)
        obtain ⟨ht1, ht2, ht3⟩ := hE.nat hi' hk'
        have hts : (scF f i).take (k + 1) = (scF f i).take k ++ [((f.Blocks.getD i default).Edges.getD k default).Block.toNat] := by rw [take_succ_0 (by rw [scF_len]; exact hk'), scF_get hk']
        have htm : ((f.Blocks.getD i default).Edges.getD k default).Block.toNat ∈ scF f i := scF_mem.2 ⟨k, hk', rfl⟩
        repeat (first | refine AWp.seq ?_ | refine AWp.block ?_ | refine AWp.skip ?_)
        refine AWp.region ?_
        refine And.intro (fun _ => And.intro (Int.natCast_nonneg _) (Int.ofNat_lt.2 hi')) ?_
        refine And.intro (fun _ => And.intro (Int.natCast_nonneg _) (Int.ofNat_lt.2 hk')) ?_
        intro _
        repeat (first | refine AWp.seq ?_ | refine AWp.block ?_ | refine AWp.skip ?_)
        refine AWp.region ?_
        repeat' refine And.intro ?_ ?_
        all_goals first | exact fun h => h | exact gT | exact gF | exact fun _ => And.intro (show (0 : Int) ≤ ((f.Blocks.getD i default).Edges.getD k default).Block by omega) (show ((f.Blocks.getD i default).Edges.getD k default).Block < f.Blocks.length by omega) | exact fun _ => ht3 | exact fun _ => And.intro (Int.natCast_nonneg _) (Int.ofNat_lt.2 hi') | exact fun _ => hi' | skip
        intro _
        repeat (first | refine AWp.seq ?_ | refine AWp.block ?_ | refine AWp.skip ?_)
        refine AWp.cond (And.intro (fun h7 => ?_) (fun h7 => ?_))
        · have h7 : (bif (bif o ((f.Blocks.getD i default).Edges.getD k default).Block.toNat then ((f.Blocks.getD i default).Edges.getD k default).Block != (a : Int) else false) then !o ((i : Nat) : Int).toNat else false) = true := h7
          rw [Int.toNat_natCast] at h7
          have q1 : o ((f.Blocks.getD i default).Edges.getD k default).Block.toNat = true := by
            cases e : o ((f.Blocks.getD i default).Edges.getD k default).Block.toNat with
            | true => rfl
            | false => rw [e] at h7; cases h7
          rw [q1] at h7
          have q2 : ((f.Blocks.getD i default).Edges.getD k default).Block ≠ (a : Int) := fun e => by
            have e2 : (((f.Blocks.getD i default).Edges.getD k default).Block != (a : Int)) = false := by rw [e]; exact bne_self_eq_false _
            rw [e2] at h7; cases h7
          have q3 : o i = false := by
            cases e : o i with
            | false => rfl
            | true =>
              rw [e] at h7
              cases e2 : (((f.Blocks.getD i default).Edges.getD k default).Block != (a : Int)) <;> rw [e2] at h7 <;> cases h7
          have hls := left_set q3 hi'
          repeat (first | refine AWp.seq ?_ | refine AWp.block ?_ | refine AWp.skip ?_)
          refine AWp.region ?_
          refine And.intro (fun _ => And.intro (Int.natCast_nonneg _) (Int.ofNat_lt.2 hi')) (And.intro (by rw [Int.toNat_natCast]; exact hi') ?_)
          intro _
          repeat (first | refine AWp.seq ?_ | refine AWp.block ?_ | refine AWp.skip ?_)
          refine AWp.region ?_
          intro _
          repeat (first | refine AWp.seq ?_ | refine AWp.block ?_ | refine AWp.skip ?_)
          refine AWp.region ?_
          intro _
          refine round_end ((setB o i, true), k + 1) ⟨hc.set hi' htm ht3 q1 (by omega), hk', ?_, fun h => by cases h⟩ ?_ (by show (f.Blocks.getD i default).Edges.length - (k + 1) < (f.Blocks.getD i default).Edges.length - k; omega)
          · show left (setB o i) _ + 1 ≤ _; omega
          · refine And.intro ?_ (And.intro ⟨_, _, rfl, rfl, fun i hi => setB_row⟩ (And.intro trivial trivial))
            repeat' (first | exact rfl | exact trivial | exact congrArg (fun z => some (AV.i64 z)) (wrap_succ hk' hel) | refine And.intro ?_ ?_)
        · have h7 : (bif (bif o ((f.Blocks.getD i default).Edges.getD k default).Block.toNat then ((f.Blocks.getD i default).Edges.getD k default).Block != (a : Int) else false) then !o ((i : Nat) : Int).toNat else false) = false := h7
          rw [Int.toNat_natCast] at h7
          repeat (first | refine AWp.seq ?_ | refine AWp.block ?_ | refine AWp.skip ?_)
          refine AWp.region ?_
          intro _
          refine round_end ((o, ch), k + 1) ⟨hc, hk', hl, fun hch => (hf hch).snoc hts fun q1 q2 => ?_⟩ ?_ (by show (f.Blocks.getD i default).Edges.length - (k + 1) < (f.Blocks.getD i default).Edges.length - k; omega)
          · have q3 : (((f.Blocks.getD i default).Edges.getD k default).Block != (a : Int)) = true := bne_iff_ne.2 (by omega)
            rw [q1, q3] at h7
            simpa using h7
          · refine And.intro ?_ (And.intro ⟨_, _, rfl, rfl, fun i hi => rfl⟩ (And.intro trivial trivial))
            repeat' (first | exact rfl | exact trivial | exact congrArg (fun z => some (AV.i64 z)) (wrap_succ hk' hel) | refine And.intro ?_ ?_)
      · have hk3 : ¬ (k : Int) < (f.Blocks.getD i default).Edges.length := of_decide_eq_false h6
        refine AWp.exit ?_
        repeat (first | refine AWp.seq ?_ | refine AWp.block ?_ | refine AWp.skip ?_)
        refine AWp.region ?_
        intro _
        refine round_end ((o, ch), i + 1) ⟨hc, hi', hl, fun hch => (hf hch).next (by rw [scF_len]; omega)⟩ ?_ (by show f.Blocks.length - (i + 1) < f.Blocks.length - i; omega)
        refine And.intro ?_ (And.intro ⟨_, _, rfl, rfl, fun i hi => rfl⟩ (And.intro trivial trivial))
        repeat' (first | exact rfl | exact trivial | exact congrArg (fun z => some (AV.i64 z)) (wrap_succ hi' hbl) | refine And.intro ?_ ?_)
    · have hb3 : ¬ (i : Int) < f.Blocks.length := of_decide_eq_false h5
      obtain rfl : i = f.Blocks.length := by omega
      refine AWp.exit ?_
      refine Exists.intro (o1, ch1) (And.intro ⟨hc1, hf1⟩ (And.intro ?_ (by show 2 * left o1 _ + ch1.toNat < 2 * left o0 _ + 1; cases ch1 <;> simp at hl1 ⊢ <;> omega)))
      refine And.intro ?_ (And.intro ⟨_, _, rfl, rfl, fun i hi => rfl⟩ (And.intro trivial trivial))
      repeat' (first | exact rfl | exact trivial | refine And.intro ?_ ?_)
  · have h0 : ch0 = false := h0
    subst h0
    refine AWp.exit ?_
    repeat (first | refine AWp.seq ?_ | refine AWp.block ?_ | refine AWp.skip ?_)
    refine AWp.region ?_
    repeat' refine And.intro ?_ ?_
    all_goals first | exact fun h => h | exact gT | exact gF | exact fun _ => And.intro (Int.natCast_nonneg _) (Int.ofNat_lt.2 hbn) | exact fun _ => hbn | exact hbn | skip
    intro _
    refine AWp.ret ⟨Or.inl rfl, rfl, ?_⟩
    intro _
    have hd := hc0.done (hf0 rfl) hbn
    refine tupB (show o0 ((b : Nat) : Int).toNat = _ from ?_)
    rw [Int.toNat_natCast]
    cases e : o0 b with
    | true => exact (decide_eq_true (And.intro hH (hd.1 e))).symm
    | false =>
      refine (decide_eq_false fun hh => ?_).symm
      have e2 : o0 b = true := hd.2 hh.2
      rw [e] at e2; cases e2
end Go.Proofs.Ytgahffjkaechmaa

/- Contract of the document's TreeOf. Condition: a checked function. -/
namespace Go.Proofs.Ytgahffjkaechmaa
open Go Go.Abs Go.RowKit Go.Abs.Gra

theorem gN {g b : Bool} (h : (g && !b) = true) : (g && (b == false)) = true := by cases g <;> cases b <;> simp_all
@[reducible] def optV (s : Option Nat) : AV := .i64 (optI s)
theorem snocG_row {n i : Nat} {g : Nat → Int} {v : Int} (hi : i < n + 1) (hv : g n = v) : intC (g i) = if i < n then intC (g i) else ([[AV.val (Value.int IntKind.i64 v)]].getD (i - n) []) := by
  by_cases h : i < n
  · rw [if_pos h]
  · have e : i = n := by omega
    subst e
    rw [if_neg h, Nat.sub_self, hv]; rfl
/-- The order that is being built, from its end of the way back. -/
def revT (P : List Nat) (k : Nat) : List Nat := P.reverse.take k
theorem revT_step {P : List Nat} {k : Nat} (hk : k < P.length) : revT P (k + 1) = revT P k ++ [P.getD (P.length - 1 - k) 0] := by
  unfold revT
  rw [take_succ_0 (by rw [List.length_reverse]; exact hk), rev_get hk]
theorem revT_len {P : List Nat} {k : Nat} (hk : k ≤ P.length) : (revT P k).length = k := by
  unfold revT; rw [List.length_take, List.length_reverse]; omega
theorem revT_all {P : List Nat} : revT P P.length = P.reverse := by
  unfold revT; rw [← List.length_reverse, List.take_length]
open Classical in
theorem bst_hit {f : Fun} {d : Nat → Int} (h : TrOk f d) {a b : Nat} (ha : a < f.Blocks.length) (hb : b < f.Blocks.length) {v : Option Nat} (hB : Bst d b a v) (hc : (bif (bif ((a : Int) != (b : Int)) then (!decide (Rch (scF f) (a : Int) b)) else false) then (bif decide (optI v < 0) then true else !decide (Rch (scF f) (optI v) a)) else false) = true) : Bst d b (a + 1) (some a) := by
  cases e1 : ((a : Int) != (b : Int)) with
  | false => rw [e1] at hc; cases hc
  | true =>
    have hne : a ≠ b := fun e => by subst e; simp at e1
    rw [e1] at hc
    by_cases hr : Rch (scF f) (a : Int) b
    · rw [decide_eq_true hr] at hc; cases hc
    · have hA := (h.dom hb).2 hr
      rw [decide_eq_false hr] at hc
      cases v with
      | none => exact hB.first hne hA
      | some c =>
        have hc : (bif decide ((c : Int) < 0) then true else !decide (Rch (scF f) (c : Int) a)) = true := hc
        rw [decide_eq_false (by omega)] at hc
        have hc : (!decide (Rch (scF f) (c : Int) a)) = true := hc
        exact hB.next hne hA ((h.dom ha).2 (by simpa using hc))
open Classical in
theorem bst_miss {f : Fun} {d : Nat → Int} (h : TrOk f d) {a b : Nat} (ha : a < f.Blocks.length) (hb : b < f.Blocks.length) {v : Option Nat} (hB : Bst d b a v) (hc : (bif (bif ((a : Int) != (b : Int)) then (!decide (Rch (scF f) (a : Int) b)) else false) then (bif decide (optI v < 0) then true else !decide (Rch (scF f) (optI v) a)) else false) = false) : Bst d b (a + 1) v := by
  by_cases hne : a = b
  · exact hB.skip (.inl hne)
  have e1 : ((a : Int) != (b : Int)) = true := bne_iff_ne.2 (by omega)
  rw [e1] at hc
  by_cases hr : Rch (scF f) (a : Int) b
  · exact hB.skip (.inr fun hA => (h.dom hb).1 hA hr)
  have hA := (h.dom hb).2 hr
  rw [decide_eq_false hr] at hc
  cases v with
  | none => cases hc
  | some c =>
    have hc : (bif decide ((c : Int) < 0) then true else !decide (Rch (scF f) (c : Int) a)) = false := hc
    rw [decide_eq_false (by omega)] at hc
    have hc : (!decide (Rch (scF f) (c : Int) a)) = false := hc
    have hc : Rch (scF f) (c : Int) a := by simpa using hc
    exact hB.keep h.wf h.all hb (fun hA2 => (h.dom ha).1 hA2 hc) hA
theorem bst_fin {f : Fun} {d : Nat → Int} (h : TrOk f d) {b : Nat} (hb : b < f.Blocks.length) {v : Option Nat} (hB : Bst d b f.Blocks.length v) : idmR d b = optI v := by
  unfold idmR
  cases v with
  | none => rw [if_pos (hB.none_fin h.wf h.all hb)]
  | some c =>
    obtain ⟨e1, e2⟩ := hB.some_fin h.wf h.all hb
    rw [if_neg e1, e2]
set_option maxHeartbeats 4000000 in
open Classical in
theorem c_TreeOf (f : Fun) (m : Mch) (hok : Fun.ok f) {d : Nat → Int} (h : TrOk f d) (h0 : flwF f m = 0) : ACallIs B.P 16 [f.av, m.av] (.tup [treeV f d, .i64 0]) := by
  have hc := c_FuncFault f m hok
  rw [h0] at hc
  have hb := h.e.siz.blocks
  have hbl : f.Blocks.length ≤ maxLen := by unfold maxLen; omega
  have hpl : (postF (scF f) f.Blocks.length).length = f.Blocks.length := by
    have := h.o.len
    unfold ordF at this
    rwa [List.length_reverse] at this
  obtain ⟨nb, hnb⟩ : ∃ nb, f.Blocks.length = nb + 1 := ⟨f.Blocks.length - 1, by omega⟩
  have hwk := m_walk0 f h.e nb (fun _ => false) [] 0 rfl (by omega) rfl (by rw [left_all]; omega) (by rw [left_all]; simp; omega)
  rw [← hnb] at hwk
  refine ACallIs.enter B _ _ Try.func16 rfl rfl Try.ntmps16 Try.results16 rfl fun hreal => ?_
  clear hreal
  repeat (first | refine AWp.seq ?_ | refine AWp.block ?_ | refine AWp.skip ?_)
  refine AWp.region ?_
  intro _
  refine AWp.freezeObj 2 rfl rfl ?_
  refine AWp.freezeObj 3 rfl rfl ?_
  repeat (first | refine AWp.seq ?_ | refine AWp.block ?_ | refine AWp.skip ?_)
  refine AWp.region ?_
  refine CallX.pure hc rfl rfl rfl ?_
  intro _
  repeat (first | refine AWp.seq ?_ | refine AWp.block ?_ | refine AWp.skip ?_)
  refine AWp.region ?_
  intro _
  repeat (first | refine AWp.seq ?_ | refine AWp.block ?_ | refine AWp.skip ?_)
  refine AWp.cond (And.intro (fun h1 => ?_) (fun h1 => ?_))
  · cases h1
  repeat (first | refine AWp.seq ?_ | refine AWp.block ?_ | refine AWp.skip ?_)
  refine AWp.region ?_
  intro _
  repeat (first | refine AWp.seq ?_ | refine AWp.block ?_ | refine AWp.skip ?_)
  refine AWp.quietFirst (.q 0 (.q 1 (.q 2 (.q 3 (.c 4 false (.c 5 true (.q 6 .fin) .no) .no))))) [0, 1, 2, 3, 6] [] mixed (by kernel_rfl) ?_
  refine And.intro (And.intro rfl (And.intro (Int.natCast_nonneg _) (And.intro (by simp only [Int.toNat_natCast]; omega) ?_))) trivial
  refine And.intro (CallX.lend hwk [(1002, 27), (48, 48)] rfl (And.intro rfl trivial) rfl ?_) trivial
  intro _
  refine AWp.freeze 48 (fun i => natC ((postF (scF f) f.Blocks.length).getD i 0)) rfl (fun i hi => rfl) ?_
  repeat (first | refine AWp.seq ?_ | refine AWp.block ?_ | refine AWp.skip ?_)
  refine AWp.region ?_
  intro _
  refine AWp.via (newρ 60) ⟨[(2, .ptr f.cells), (4, .obj 4 0), (7, .obj 7 0), (8, natsL (postF (scF f) f.Blocks.length)), (9, .i64 (IntKind.i64.wrap (((postF (scF f) f.Blocks.length).length : Int) - 1)))], [(4, .cells [nilV, nilV, nilV]), (7, .cells [.sl 60 0, nilV, nilV]), (60, rowN [])]⟩ ?_ ?_
  · refine ⟨?_, ?_, newρ_inj 60 _, newρ_old (by decide) _⟩
    · repeat' (first | exact rfl | exact trivial | refine And.intro ?_ ?_)
    · refine And.intro (And.intro ⟨_, ⟨_, rfl, rfl, trivial⟩, rfl⟩ ?_) (And.intro (And.intro ⟨_, ⟨_, rfl, rfl, trivial⟩, rfl⟩ ?_) (And.intro (And.intro ⟨_, _, _, rfl⟩ ?_) trivial))
      all_goals repeat' (first | exact rfl | exact trivial | refine And.intro ?_ ?_)
  have hrl : ∀ k, k ≤ f.Blocks.length → (revT (postF (scF f) f.Blocks.length) k).length = k := fun k hk => revT_len (by omega)
  repeat (first | refine AWp.seq ?_ | refine AWp.block ?_ | refine AWp.skip ?_)
  refine AWp.loop (fun k : Nat => ⟨[(2, .ptr f.cells), (4, .obj 4 0), (7, .obj 7 0), (8, natsL (postF (scF f) f.Blocks.length)), (9, .i64 ((f.Blocks.length : Int) - 1 - k))], [(4, .cells [nilV, nilV, nilV]), (7, .cells [.sl 60 (revT (postF (scF f) f.Blocks.length) k).length, nilV, nilV]), (60, rowN (revT (postF (scF f) f.Blocks.length) k))]⟩) (fun k => k ≤ f.Blocks.length) (fun k => f.Blocks.length - k) 0 (Nat.zero_le _) ?_ ?_
  · have hw : IntKind.i64.wrap (((postF (scF f) f.Blocks.length).length : Int) - 1) = (f.Blocks.length : Int) - 1 - ((0 : Nat) : Int) := by rw [hpl, wrap_in (by omega) (by omega)]; omega
    refine And.intro ?_ (And.intro rfl (And.intro ?_ (And.intro rfl (And.intro ?_ (And.intro ⟨_, _, rfl, rfl, fun i hi => absurd hi (Nat.not_lt_zero _)⟩ (And.intro trivial trivial))))))
    all_goals repeat' (first | exact rfl | exact trivial | exact congrArg (fun z => some (AV.i64 z)) hw | refine And.intro ?_ ?_)
  intro k hk
  repeat (first | refine AWp.seq ?_ | refine AWp.block ?_ | refine AWp.skip ?_)
  refine AWp.region ?_
  intro _
  repeat (first | refine AWp.seq ?_ | refine AWp.block ?_ | refine AWp.skip ?_)
  refine AWp.cond (And.intro (fun h2 => ?_) (fun h2 => ?_))
  · have hk' : k < f.Blocks.length := by
      have := of_decide_eq_true h2
      omega
    have hl0 := hrl k hk
    have hl1 := hrl (k + 1) hk'
    have e1 : ((f.Blocks.length : Int) - 1 - k).toNat = (postF (scF f) f.Blocks.length).length - 1 - k := by rw [hpl]; omega
    have hS := revT_step (P := postF (scF f) f.Blocks.length) (k := k) (by omega)
    have hl2 : (revT (postF (scF f) f.Blocks.length) (k + 1)).length = (revT (postF (scF f) f.Blocks.length) k).length + 1 := by omega
    have hrow : ∀ i, i < (revT (postF (scF f) f.Blocks.length) (k + 1)).length → natC ((revT (postF (scF f) f.Blocks.length) (k + 1)).getD i 0) = if i < (revT (postF (scF f) f.Blocks.length) k).length then natC ((revT (postF (scF f) f.Blocks.length) k).getD i 0) else ([[AV.val (Value.int IntKind.i64 ((postF (scF f) f.Blocks.length).getD ((f.Blocks.length : Int) - 1 - k).toNat 0 : Nat))]].getD (i - (revT (postF (scF f) f.Blocks.length) k).length) []) := by
      intro i hi
      rw [hS] at hi
      rw [hS, e1]
      exact snocN_row hi
    repeat (first | refine AWp.seq ?_ | refine AWp.block ?_ | refine AWp.skip ?_)
    refine AWp.mono (Q := fun e s => e = .normal ∧ Sub ⟨[(2, .ptr f.cells), (4, .obj 4 0), (7, .obj 7 0), (8, natsL (postF (scF f) f.Blocks.length)), (9, .i64 ((f.Blocks.length : Int) - 1 - k))], [(4, .cells [nilV, nilV, nilV]), (7, .cells [.sl 43 (revT (postF (scF f) f.Blocks.length) (k + 1)).length, nilV, nilV]), (43, rowN (revT (postF (scF f) f.Blocks.length) (k + 1)))]⟩ s) ?_ ?_
    · refine AWp.quietFirst (.q 2 (.q 3 (.q 4 (.q 5 (.c 0 false (.c 1 false (.c 6 true (.c 7 true (.c 8 true (.c 9 true .fin .no) .no) .no) .no) (.c 6 true (.c 1 false (.c 7 true (.c 8 true (.c 9 true .fin .no) .no) .no) .no) .no)) (.c 6 true (.c 0 false (.c 1 false (.c 7 true (.c 8 true (.c 9 true .fin .no) .no) .no) .no) .no) .no)))))) [2, 3, 4, 5] [] mixed (by kernel_rfl) ?_
      repeat' (first | exact trivial | refine And.intro ?_ ?_)
      all_goals first | exact rfl | exact Nat.le_refl _ | exact (fun _ => And.intro (by omega) (by rw [hpl]; omega)) | (intro i hi; have e : i = 0 := (by omega); subst e; rfl) | (rw [hl0]; omega) | omega | skip
      all_goals
        intro _
        refine And.intro rfl (And.intro ?_ (And.intro rfl (And.intro ?_ (And.intro (congrArg (fun n => some (HO.cells [AV.sl 43 n, nilV, nilV])) hl2.symm) (And.intro ?_ (And.intro ⟨_, _, rfl, hl2.symm, hrow⟩ (And.intro trivial trivial)))))))
        all_goals repeat' (first | exact rfl | exact trivial | refine And.intro ?_ ?_)
    rintro _ _ ⟨rfl, hs⟩
    refine AWp.weaken hs ?_
    refine AWp.rename 43 60 rfl rfl ?_
    repeat (first | refine AWp.seq ?_ | refine AWp.block ?_ | refine AWp.skip ?_)
    refine AWp.region ?_
    intro _
    refine round_end (k + 1) hk' ?_ (by omega)
    have hw : IntKind.i64.wrap ((f.Blocks.length : Int) - 1 - k - 1) = (f.Blocks.length : Int) - 1 - ((k + 1 : Nat) : Int) := by rw [wrap_in (by omega) (by omega)]; omega
    refine And.intro ?_ (And.intro rfl (And.intro ?_ (And.intro rfl (And.intro ?_ (And.intro ⟨_, _, rfl, rfl, fun i hi => rfl⟩ (And.intro trivial trivial))))))
    all_goals repeat' (first | exact rfl | exact trivial | exact congrArg (fun z => some (AV.i64 z)) hw | refine And.intro ?_ ?_)
  have hk3 : ¬ ((f.Blocks.length : Int) - 1 - k ≥ 0) := of_decide_eq_false h2
  obtain rfl : k = f.Blocks.length := by omega
  have hrev : revT (postF (scF f) f.Blocks.length) f.Blocks.length = ordF (scF f) f.Blocks.length := by
    have := revT_all (P := postF (scF f) f.Blocks.length)
    rw [hpl] at this
    exact this
  rw [hrev]
  refine AWp.exit ?_
  refine AWp.freeze 60 (fun i => natC ((ordF (scF f) f.Blocks.length).getD i 0)) rfl (fun i hi => rfl) ?_
  repeat (first | refine AWp.seq ?_ | refine AWp.block ?_ | refine AWp.skip ?_)
  refine AWp.region ?_
  intro _
  refine AWp.via (newρ 61) ⟨[(2, .ptr f.cells), (4, .obj 4 0), (7, .obj 7 0), (10, .i64 (0 : Nat))], [(4, .cells [nilV, nilV, nilV]), (7, .cells [natsL (ordF (scF f) f.Blocks.length), .sl 61 0, nilV]), (61, rowG 0 (idmR d))]⟩ ?_ ?_
  · refine ⟨?_, ?_, newρ_inj 61 _, newρ_old (by decide) _⟩
    · repeat' (first | exact rfl | exact trivial | refine And.intro ?_ ?_)
    · refine And.intro (And.intro ⟨_, ⟨_, rfl, rfl, trivial⟩, rfl⟩ ?_) (And.intro (And.intro ⟨_, ⟨_, rfl, rfl, trivial⟩, rfl⟩ ?_) (And.intro (And.intro ⟨_, _, _, rfl⟩ ?_) trivial))
      all_goals repeat' (first | exact rfl | exact trivial | refine And.intro ?_ ?_)
  refine AWp.via (newρ 62) ⟨[(2, .ptr f.cells), (4, .obj 4 0), (7, .obj 7 0), (10, .i64 (0 : Nat))], [(4, .cells [nilV, nilV, nilV]), (7, .cells [natsL (ordF (scF f) f.Blocks.length), .sl 61 0, .sl 62 0]), (61, rowG 0 (idmR d)), (62, rowG 0 (fun x => ((depF (scF f) f.Blocks.length f.Blocks.length x : Nat) : Int)))]⟩ ?_ ?_
  · refine ⟨?_, ?_, newρ_inj 62 _, newρ_old (by decide) _⟩
    · repeat' (first | exact rfl | exact trivial | refine And.intro ?_ ?_)
    · refine And.intro (And.intro ⟨_, ⟨_, rfl, rfl, trivial⟩, rfl⟩ ?_) (And.intro (And.intro ⟨_, ⟨_, rfl, rfl, trivial⟩, rfl⟩ ?_) (And.intro (And.intro ⟨_, ⟨_, rfl, rfl, trivial⟩, Or.inl ⟨_, rfl, fun i hi => rfl⟩⟩ ?_) (And.intro (And.intro ⟨_, _, _, rfl⟩ ?_) trivial)))
      all_goals repeat' (first | exact rfl | exact trivial | refine And.intro ?_ ?_)
  repeat (first | refine AWp.seq ?_ | refine AWp.block ?_ | refine AWp.skip ?_)
  refine AWp.loop (fun b : Nat => ⟨[(2, .ptr f.cells), (4, .obj 4 0), (7, .obj 7 0), (10, .i64 b)], [(4, .cells [nilV, nilV, nilV]), (7, .cells [natsL (ordF (scF f) f.Blocks.length), .sl 61 (b), .sl 62 (b)]), (61, rowG (b) (idmR d)), (62, rowG (b) (fun x => ((depF (scF f) f.Blocks.length f.Blocks.length x : Nat) : Int)))]⟩) (fun b => b ≤ f.Blocks.length) (fun b => f.Blocks.length - b) 0 (Nat.zero_le _) ?_ ?_
  · refine And.intro ?_ (And.intro rfl (And.intro ?_ (And.intro rfl (And.intro ?_ (And.intro ⟨_, _, rfl, rfl, fun i hi => absurd hi (Nat.not_lt_zero _)⟩ (And.intro trivial (And.intro ⟨_, _, rfl, rfl, fun i hi => absurd hi (Nat.not_lt_zero _)⟩ (And.intro trivial trivial))))))))
    all_goals repeat' (first | exact rfl | exact trivial | refine And.intro ?_ ?_)
  intro b hbb
  repeat (first | refine AWp.seq ?_ | refine AWp.block ?_ | refine AWp.skip ?_)
  refine AWp.region ?_
  intro _
  repeat (first | refine AWp.seq ?_ | refine AWp.block ?_ | refine AWp.skip ?_)
  refine AWp.cond (And.intro (fun h3 => ?_) (fun h3 => ?_))
  · have hb' : b < f.Blocks.length := Int.ofNat_lt.1 (of_decide_eq_true h3)
    repeat (first | refine AWp.seq ?_ | refine AWp.block ?_ | refine AWp.skip ?_)
    refine AWp.region ?_
    intro _
    repeat (first | refine AWp.seq ?_ | refine AWp.block ?_ | refine AWp.skip ?_)
    refine AWp.region ?_
    intro _
    repeat (first | refine AWp.seq ?_ | refine AWp.block ?_ | refine AWp.skip ?_)
    refine AWp.loop (fun s : Option Nat × Nat => ⟨[(2, .ptr f.cells), (4, .obj 4 0), (7, .obj 7 0), (10, .i64 b), (11, optV s.1), (12, .i64 s.2)], [(4, .cells [nilV, nilV, nilV]), (7, .cells [natsL (ordF (scF f) f.Blocks.length), .sl 61 (b), .sl 62 (b)]), (61, rowG (b) (idmR d)), (62, rowG (b) (fun x => ((depF (scF f) f.Blocks.length f.Blocks.length x : Nat) : Int)))]⟩) (fun s => s.2 ≤ f.Blocks.length ∧ Bst d b s.2 s.1) (fun s => f.Blocks.length - s.2) (none, 0) ⟨Nat.zero_le _, Bst.zero⟩ ?_ ?_
    · refine And.intro ?_ (And.intro rfl (And.intro ?_ (And.intro rfl (And.intro ?_ (And.intro ⟨_, _, rfl, rfl, fun i hi => rfl⟩ (And.intro trivial (And.intro ⟨_, _, rfl, rfl, fun i hi => rfl⟩ (And.intro trivial trivial))))))))
      all_goals repeat' (first | exact rfl | exact trivial | refine And.intro ?_ ?_)
    rintro ⟨v, a⟩ ⟨ha, hB⟩
    simp only at ha hB
    repeat (first | refine AWp.seq ?_ | refine AWp.block ?_ | refine AWp.skip ?_)
    refine AWp.region ?_
    intro _
    repeat (first | refine AWp.seq ?_ | refine AWp.block ?_ | refine AWp.skip ?_)
    refine AWp.cond (And.intro (fun h4 => ?_) (fun h4 => ?_))
    · have ha' : a < f.Blocks.length := Int.ofNat_lt.1 (of_decide_eq_true h4)
      have hab1 := c_Above f h.e (a : Int) b hb'
      have hab2 := c_Above f h.e (optI v) a ha'
      repeat (first | refine AWp.seq ?_ | refine AWp.block ?_ | refine AWp.skip ?_)
      refine AWp.region ?_
      repeat' (first | refine And.intro ?_ ?_ | refine CallK.intro (fun _ => hab1) ?_ | refine CallK.intro (fun _ => hab2) ?_)
      all_goals first | exact fun h => h | exact gT | exact gF | exact gN | skip
      intro _
      repeat (first | refine AWp.seq ?_ | refine AWp.block ?_ | refine AWp.skip ?_)
      refine AWp.cond (And.intro (fun h5 => ?_) (fun h5 => ?_))
      · have hB2 := bst_hit h ha' hb' hB h5
        repeat (first | refine AWp.seq ?_ | refine AWp.block ?_ | refine AWp.skip ?_)
        refine AWp.region ?_
        intro _
        repeat (first | refine AWp.seq ?_ | refine AWp.block ?_ | refine AWp.skip ?_)
        refine AWp.region ?_
        intro _
        refine round_end (some a, a + 1) ⟨ha', hB2⟩ ?_ (by show f.Blocks.length - (a + 1) < f.Blocks.length - a; omega)
        refine And.intro ?_ (And.intro rfl (And.intro ?_ (And.intro rfl (And.intro ?_ (And.intro ⟨_, _, rfl, rfl, fun i hi => rfl⟩ (And.intro trivial (And.intro ⟨_, _, rfl, rfl, fun i hi => rfl⟩ (And.intro trivial trivial))))))))
        all_goals repeat' (first | exact rfl | exact trivial | exact congrArg (fun z => some (AV.i64 z)) (wrap_succ ha' hbl) | refine And.intro ?_ ?_)
      · have hB2 := bst_miss h ha' hb' hB h5
        repeat (first | refine AWp.seq ?_ | refine AWp.block ?_ | refine AWp.skip ?_)
        refine AWp.region ?_
        intro _
        refine round_end (v, a + 1) ⟨ha', hB2⟩ ?_ (by show f.Blocks.length - (a + 1) < f.Blocks.length - a; omega)
        refine And.intro ?_ (And.intro rfl (And.intro ?_ (And.intro rfl (And.intro ?_ (And.intro ⟨_, _, rfl, rfl, fun i hi => rfl⟩ (And.intro trivial (And.intro ⟨_, _, rfl, rfl, fun i hi => rfl⟩ (And.intro trivial trivial))))))))
        all_goals repeat' (first | exact rfl | exact trivial | exact congrArg (fun z => some (AV.i64 z)) (wrap_succ ha' hbl) | refine And.intro ?_ ?_)
    have ha3 : ¬ (a : Int) < f.Blocks.length := of_decide_eq_false h4
    obtain rfl : a = f.Blocks.length := by omega
    have hv := bst_fin h hb' hB
    refine AWp.exit ?_
    repeat (first | refine AWp.seq ?_ | refine AWp.block ?_ | refine AWp.skip ?_)
    refine AWp.region ?_
    refine And.intro (Nat.le_refl _) (And.intro (fun i hi => ?_) (And.intro rfl (And.intro (by omega) ?_)))
    · have e : i = 0 := by omega
      subst e; rfl
    intro _
    refine AWp.rename 83 61 rfl rfl ?_
    repeat (first | refine AWp.seq ?_ | refine AWp.block ?_ | refine AWp.skip ?_)
    refine AWp.region ?_
    intro _
    repeat (first | refine AWp.seq ?_ | refine AWp.block ?_ | refine AWp.skip ?_)
    refine AWp.region ?_
    intro _
    repeat (first | refine AWp.seq ?_ | refine AWp.block ?_ | refine AWp.skip ?_)
    refine AWp.loop (fun j : Nat => ⟨[(2, .ptr f.cells), (4, .obj 4 0), (7, .obj 7 0), (10, .i64 b), (13, .i64 (depF (scF f) f.Blocks.length j b : Nat)), (14, .i64 j)], [(4, .cells [nilV, nilV, nilV]), (7, .cells [natsL (ordF (scF f) f.Blocks.length), .sl 61 (b + 1), .sl 62 (b)]), (61, rowG (b + 1) (idmR d)), (62, rowG (b) (fun x => ((depF (scF f) f.Blocks.length f.Blocks.length x : Nat) : Int)))]⟩) (fun j => j ≤ f.Blocks.length) (fun j => f.Blocks.length - j) 0 (Nat.zero_le _) ?_ ?_
    · refine And.intro ?_ (And.intro rfl (And.intro ?_ (And.intro rfl (And.intro ?_ (And.intro ⟨_, _, rfl, rfl, fun i hi => snocG_row hi hv⟩ (And.intro trivial (And.intro ⟨_, _, rfl, rfl, fun i hi => rfl⟩ (And.intro trivial trivial))))))))
      all_goals repeat' (first | exact rfl | exact trivial | refine And.intro ?_ ?_)
    intro j hj
    have hdl := depF_le (sc := scF f) (n := f.Blocks.length) j b
    repeat (first | refine AWp.seq ?_ | refine AWp.block ?_ | refine AWp.skip ?_)
    refine AWp.region ?_
    intro _
    repeat (first | refine AWp.seq ?_ | refine AWp.block ?_ | refine AWp.skip ?_)
    refine AWp.cond (And.intro (fun h6 => ?_) (fun h6 => ?_))
    · have hj' : j < f.Blocks.length := Int.ofNat_lt.1 (of_decide_eq_true h6)
      repeat (first | refine AWp.seq ?_ | refine AWp.block ?_ | refine AWp.skip ?_)
      refine AWp.region ?_
      refine CallX.pure (c_inLoop f h.e j b hj' hb') rfl rfl rfl ?_
      intro _
      repeat (first | refine AWp.seq ?_ | refine AWp.block ?_ | refine AWp.skip ?_)
      refine AWp.cond (And.intro (fun h7 => ?_) (fun h7 => ?_))
      · have hD := depF_in (sc := scF f) (n := f.Blocks.length) (of_decide_eq_true h7)
        have hw : IntKind.i64.wrap ((depF (scF f) f.Blocks.length j b : Nat) + 1) = ((depF (scF f) f.Blocks.length (j + 1) b : Nat) : Int) := by rw [hD, wrap_in (by omega) (by omega)]; omega
        repeat (first | refine AWp.seq ?_ | refine AWp.block ?_ | refine AWp.skip ?_)
        refine AWp.region ?_
        intro _
        repeat (first | refine AWp.seq ?_ | refine AWp.block ?_ | refine AWp.skip ?_)
        refine AWp.region ?_
        intro _
        refine round_end (j + 1) hj' ?_ (by omega)
        refine And.intro ?_ (And.intro rfl (And.intro ?_ (And.intro rfl (And.intro ?_ (And.intro ⟨_, _, rfl, rfl, fun i hi => rfl⟩ (And.intro trivial (And.intro ⟨_, _, rfl, rfl, fun i hi => rfl⟩ (And.intro trivial trivial))))))))
        all_goals repeat' (first | exact rfl | exact trivial | exact congrArg (fun z => some (AV.i64 z)) (wrap_succ hj' hbl) | exact congrArg (fun z => some (AV.i64 z)) hw | refine And.intro ?_ ?_)
      · have hD := depF_out (sc := scF f) (n := f.Blocks.length) (of_decide_eq_false h7)
        repeat (first | refine AWp.seq ?_ | refine AWp.block ?_ | refine AWp.skip ?_)
        refine AWp.region ?_
        intro _
        refine round_end (j + 1) hj' ?_ (by omega)
        rw [hD]
        refine And.intro ?_ (And.intro rfl (And.intro ?_ (And.intro rfl (And.intro ?_ (And.intro ⟨_, _, rfl, rfl, fun i hi => rfl⟩ (And.intro trivial (And.intro ⟨_, _, rfl, rfl, fun i hi => rfl⟩ (And.intro trivial trivial))))))))
        all_goals repeat' (first | exact rfl | exact trivial | exact congrArg (fun z => some (AV.i64 z)) (wrap_succ hj' hbl) | refine And.intro ?_ ?_)
    have hj3 : ¬ (j : Int) < f.Blocks.length := of_decide_eq_false h6
    obtain rfl : j = f.Blocks.length := by omega
    refine AWp.exit ?_
    repeat (first | refine AWp.seq ?_ | refine AWp.block ?_ | refine AWp.skip ?_)
    refine AWp.region ?_
    refine And.intro (Nat.le_refl _) (And.intro (fun i hi => ?_) (And.intro rfl (And.intro (by omega) ?_)))
    · have e : i = 0 := by omega
      subst e; rfl
    intro _
    refine AWp.rename 102 62 rfl rfl ?_
    repeat (first | refine AWp.seq ?_ | refine AWp.block ?_ | refine AWp.skip ?_)
    refine AWp.region ?_
    intro _
    refine round_end (b + 1) hb' ?_ (by omega)
    refine And.intro ?_ (And.intro rfl (And.intro ?_ (And.intro rfl (And.intro ?_ (And.intro ⟨_, _, rfl, rfl, fun i hi => rfl⟩ (And.intro trivial (And.intro ⟨_, _, rfl, rfl, fun i hi => snocG_row (g := fun x => ((depF (scF f) f.Blocks.length f.Blocks.length x : Nat) : Int)) hi rfl⟩ (And.intro trivial trivial))))))))
    all_goals repeat' (first | exact rfl | exact trivial | exact congrArg (fun z => some (AV.i64 z)) (wrap_succ hb' hbl) | refine And.intro ?_ ?_)
  have hb3 : ¬ (b : Int) < f.Blocks.length := of_decide_eq_false h3
  obtain rfl : b = f.Blocks.length := by omega
  refine AWp.exit ?_
  refine AWp.freeze 61 (fun i => intC (idmR d i)) rfl (fun i hi => rfl) ?_
  refine AWp.freeze 62 (fun x => natC (depF (scF f) f.Blocks.length f.Blocks.length x)) rfl (fun i hi => rfl) ?_
  repeat (first | refine AWp.seq ?_ | refine AWp.block ?_ | refine AWp.skip ?_)
  refine AWp.region ?_
  intro _
  refine AWp.ret ⟨Or.inl rfl, rfl, ?_⟩
  intro _
  rfl
theorem c_TreeOfNo (f : Fun) (m : Mch) (hok : Fun.ok f) (h0 : flwF f m ≠ 0) : ACallIs B.P 16 [f.av, m.av] (.tup [.agg [nilV, nilV, nilV], .i64 (flwF f m)]) := by
  refine ACallIs.enter B _ _ Try.func16 rfl rfl Try.ntmps16 Try.results16 rfl fun hreal => ?_
  clear hreal
  repeat (first | refine AWp.seq ?_ | refine AWp.block ?_ | refine AWp.skip ?_)
  refine AWp.region ?_
  intro _
  refine AWp.freezeObj 2 rfl rfl ?_
  refine AWp.freezeObj 3 rfl rfl ?_
  repeat (first | refine AWp.seq ?_ | refine AWp.block ?_ | refine AWp.skip ?_)
  refine AWp.region ?_
  refine CallX.pure (c_FuncFault f m hok) rfl rfl rfl ?_
  intro _
  repeat (first | refine AWp.seq ?_ | refine AWp.block ?_ | refine AWp.skip ?_)
  refine AWp.region ?_
  intro _
  repeat (first | refine AWp.seq ?_ | refine AWp.block ?_ | refine AWp.skip ?_)
  refine AWp.cond (And.intro (fun h1 => ?_) (fun h1 => ?_))
  · repeat (first | refine AWp.seq ?_ | refine AWp.block ?_ | refine AWp.skip ?_)
    refine AWp.region ?_
    intro _
    refine AWp.ret ⟨Or.inl rfl, rfl, ?_⟩
    intro _
    rfl
  exact absurd (show (flwF f m != 0) = false from h1) (by simpa using h0)
theorem trOk_of {f : Fun} {m : Mch} (h0 : flwF f m = 0) : ∃ d, TrOk f d := by
  have hc0 : chkF f m = 0 := Classical.byContradiction fun hn => by rw [flwF_1 hn] at h0; exact hn h0
  have hA : AllTo f := Classical.byContradiction fun hn => by rw [flwF_2 hc0 hn] at h0; cases h0
  have hC := chkd_of hc0
  have hO := hC.ord hA
  obtain ⟨d, hd⟩ := idoms_ord hO
  exact ⟨d, hC.e, hO, hd⟩
end Go.Proofs.Ytgahffjkaechmaa
