/- The tree of a checked function's blocks: order, idoms, depths; flow.Dominators and the document's TreeOf. Condition: the sizes, the edges' goals. -/
import Derived.Test.YtjjgjflbhpoloaaFlw
set_option linter.unusedVariables false
set_option linter.unusedSimpArgs false
/- Contracts of slices.Index, Contains, IndexFunc and ContainsFunc of numbers, and of flow.headed. Condition: a tree of idoms. -/
namespace Go.Proofs.Ytjjgjflbhpoloaa
open Go Go.Abs Go.RowKit Go.Abs.Gra
def isN (L : List Nat) (v : Nat) (j : Nat) : Bool := (v : Int) == ((L.getD j 0 : Nat) : Int)
theorem anyB_mem_nat (L : List Nat) (p : Nat → Bool) : anyB (fun j => p (L.getD j 0)) L.length = decide (∃ x ∈ L, p x = true) := by
 by_cases h : ∃ x ∈ L, p x = true
 ·obtain ⟨x, hx, hp⟩ := h
  rw [decide_eq_true ⟨x, hx, hp⟩]
  obtain ⟨j, hj, rfl⟩ := List.getElem_of_mem hx
  exact anyB_hit hj (by rw [List.getD_eq_getElem?_getD, List.getElem?_eq_getElem hj]; exact hp)
 ·rw [decide_eq_false h]
  refine anyB_none fun j hj => ?_
  rw [List.getD_eq_getElem?_getD, List.getElem?_eq_getElem hj]
  cases hp : p L[j] with
  | false => exact hp
  | true => exact absurd ⟨_, List.getElem_mem hj, hp⟩ h
theorem anyB_isN (L : List Nat) (v : Nat) : anyB (isN L v) L.length = decide (v ∈ L) := by
 have := anyB_mem_nat L fun x => (v : Int) == (x : Int)
 refine this.trans (decide_eq_decide.2 ⟨fun ⟨x, hx, e⟩ => ?_, fun h => ⟨v, h, by simp⟩⟩)
 have e : v = x := by have e : (v : Int) = x := by simpa using e
                      omega
 exact e ▸ hx
set_option maxHeartbeats 1000000 in
theorem c_IndexN (L : List Nat) (v : Nat) (hlen : L.length ≤ maxLen) : ACallIs B.P 132 [natsL L, .i64 v] (.i64 (idxF (isN L v) L.length)) := by
 refine ACallIs.enter B _ _ Try.func132 rfl rfl Try.ntmps132 Try.results132 rfl fun hreal => ?_
 clear hreal
 refine AWp.seq (AWp.region ?_)
 intro _
 refine AWp.seq (AWp.seq (AWp.region ?_))
 intro _
 refine AWp.block (AWp.loop (fun k : Nat => ⟨[(0, natsL L), (1, .i64 v), (7, .i64 L.length), (8, .i64 k)], []⟩) (fun k => k ≤ L.length ∧ ∀ j, j < k → isN L v j = false) (fun k => L.length - k) 0 ⟨Nat.zero_le _, fun j hj => absurd hj (by omega)⟩ ?_ ?_)
 ·repeat' (first|exact rfl|exact trivial|refine And.intro ?_ ?_)
 intro k hk
 obtain ⟨hk, hg⟩ := hk
 repeat' (first
  | apply zq | apply zb | apply zk | apply ze
  | apply zr | refine AWp.draw mixed (by kernel_rfl) ?_
  | refine AWp.cond (And.intro (fun h => ?_) (fun h => ?_))
  | refine AWp.ret ⟨Or.inl rfl, rfl, ?_⟩
  | exact trivial | refine And.intro ?_ ?_ | intro _)
 all_goals first|assumption|exact tupI (idxF_none (n := L.length) (fun j hj => hg j (by grind))).symm|refine tupI (idxF_hit (k := k) (n := L.length) (by grind) hg ?_).symm|refine round_end (k + 1) ⟨by grind, upto hg ?_⟩ (by repeat' (first|exact rfl|exact trivial|exact congrArg (fun z => some (AV.i64 z)) (wrap_succ (show k < L.length from by grind) hlen)|refine And.intro ?_ ?_)) (by grind)|skip
 all_goals first|assumption|((try clear hg); (try simp only [Int.toNat_natCast, Bool.cond_true_left, Bool.cond_false_right, Bool.or_eq_true, Bool.and_eq_true, Bool.or_eq_false_iff, Bool.and_eq_false_iff, beq_eq_false_iff_ne, Bool.not_eq_true', Bool.not_eq_false', decide_eq_true_eq, decide_eq_false_iff_not, beq_iff_eq, isN] at *); (try simp only [bif_if] at *); ((skip) <;> grind))
theorem c_ContainsN (L : List Nat) (v : Nat) (hlen : L.length ≤ maxLen) : ACallIs B.P 85 [natsL L, .i64 v] (.bool (decide (v ∈ L))) := by
 refine ACallIs.enter B _ _ Try.func85 rfl rfl Try.ntmps85 Try.results85 rfl fun hreal => ?_
 clear hreal
 repeat' (first
  | apply zq | apply zb | apply zk | apply ze
  | apply zr | refine AWp.draw mixed (by kernel_rfl) ?_
  | refine AWp.cond (And.intro (fun h => ?_) (fun h => ?_))
  | refine AWp.ret ⟨Or.inl rfl, rfl, ?_⟩
  | refine CallX.pure (c_IndexN L v hlen) rfl rfl rfl ?_ | refine CallK.intro (fun _ => c_IndexN L v hlen) ?_
  | exact trivial | refine And.intro ?_ ?_ | intro _)
 exact tupB ((idxF_any _ _).trans (anyB_isN L v))
structure TrOk (f : Fun) (d : Nat → Int) : Prop where
 e : EdgOk f
 o : OrdOk (scF f) f.Blocks.length
 d : Fin_ f.Blocks.length (rank (scF f) f.Blocks.length) (preds (scF f) f.Blocks.length) (scF f) d
theorem TrOk.wf {f : Fun} {d : Nat → Int} (h : TrOk f d) : WF f.Blocks.length (rank (scF f) f.Blocks.length) d := h.d.inv.wf
theorem TrOk.all {f : Fun} {d : Nat → Int} (h : TrOk f d) : ∀ y, y < f.Blocks.length → 0 ≤ d y := h.d.done
theorem TrOk.dom {f : Fun} {d : Nat → Int} (h : TrOk f d) {a y : Nat} (hy : y < f.Blocks.length) : Anc d a y ↔ ¬ Rch (scF f) a y := h.d.dom h.o.g hy
theorem TrOk.pl {f : Fun} {d : Nat → Int} (h : TrOk f d) (b : Nat) : (preds (scF f) f.Blocks.length b).length ≤ 48 := by
 have := prK_len (sc := scF f) (t := b) (a := f.Blocks.length) (k := 0) fun c hc => h.e.le3 c hc
 rw [prK_zero] at this
 have := h.e.siz.blocks
 omega
theorem TrOk.head {f : Fun} {d : Nat → Int} (h : TrOk f d) (a : Nat) : (∃ x ∈ preds (scF f) f.Blocks.length a, Anc d a x) ↔ Headed (scF f) f.Blocks.length a :=
 ⟨fun ⟨x, hx, hA⟩ => ⟨x, (mem_preds.1 hx).1, (mem_preds.1 hx).2, (h.dom (mem_preds.1 hx).1).1 hA⟩, fun ⟨x, h1, h2, h3⟩ => ⟨x, mem_preds.2 ⟨h1, h2⟩, (h.dom h1).2 h3⟩⟩
end Go.Proofs.Ytjjgjflbhpoloaa
/- Contract of flow.loop. Condition: a tree of idoms. -/
namespace Go.Proofs.Ytjjgjflbhpoloaa
open Go Go.Abs Go.RowKit Go.Abs.Gra
end Go.Proofs.Ytjjgjflbhpoloaa
/- Contracts of flow.tree and flow.Dominators. Condition: a checked function. -/
namespace Go.Proofs.Ytjjgjflbhpoloaa
open Go Go.Abs Go.RowKit Go.Abs.Gra
@[reducible] def nilV : AV := .val (.slice none 0 0)
end Go.Proofs.Ytjjgjflbhpoloaa
/- Contract of the document's walk. Condition: the sizes, the edges' goals. -/
namespace Go.Proofs.Ytjjgjflbhpoloaa
open Go Go.Abs Go.RowKit Go.Abs.Gra
end Go.Proofs.Ytjjgjflbhpoloaa
/- Contracts of the law's sameInts and sameTree at equal arguments. Condition: none. -/
namespace Go.Proofs.Ytjjgjflbhpoloaa
open Go Go.Abs Go.RowKit Go.Abs.Gra
end Go.Proofs.Ytjjgjflbhpoloaa
/- Contract of the document's inLoop. Condition: the sizes, the edges' goals. -/
namespace Go.Proofs.Ytjjgjflbhpoloaa
open Go Go.Abs Go.RowKit Go.Abs.Gra
end Go.Proofs.Ytjjgjflbhpoloaa
/- Contract of the document's TreeOf. Condition: a checked function. -/
namespace Go.Proofs.Ytjjgjflbhpoloaa
open Go Go.Abs Go.RowKit Go.Abs.Gra
theorem gN {g b : Bool} (h : (g && !b) = true) : (g && (b == false)) = true := by cases g <;> cases b <;> simp_all
end Go.Proofs.Ytjjgjflbhpoloaa
