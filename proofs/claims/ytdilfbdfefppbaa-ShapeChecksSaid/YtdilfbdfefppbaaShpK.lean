/- Contracts of shape.edge and the document's edgeFault. Condition: the values' classes, the sizes. -/
import Derived.Test.YtdilfbdfefppbaaShpJ
set_option linter.unusedVariables false
set_option linter.unusedSimpArgs false
namespace Go.Proofs.Ytdilfbdfefppbaa
open Go Go.Abs Go.RowKit

def edgP (f : Fun) (e : Edg) : List Int := (f.Blocks.getD e.Block.toNat default).Params
def edgG (f : Fun) (e : Edg) (j : Nat) : Int :=
  if valB f (e.Args.getD j default) = false then 2
  else if valB f ((edgP f e).getD j default) = false ∨ cls f ((edgP f e).getD j default) ≠ cls f (e.Args.getD j default) then 17 else 0
def edgF (f : Fun) (e : Edg) : Int :=
  if e.Block < 1 ∨ (f.Blocks.length : Int) ≤ e.Block then 6
  else if e.Args.length ≠ (edgP f e).length then 4
  else firstF (edgG f e) e.Args.length
theorem edgF_1 {f : Fun} {e : Edg} (h : e.Block < 1 ∨ (f.Blocks.length : Int) ≤ e.Block) : edgF f e = 6 := if_pos h
theorem edgF_2 {f : Fun} {e : Edg} (h : ¬ (e.Block < 1 ∨ (f.Blocks.length : Int) ≤ e.Block)) (h2 : e.Args.length ≠ (edgP f e).length) : edgF f e = 4 := by unfold edgF; rw [if_neg h, if_pos h2]
theorem edgF_3 {f : Fun} {e : Edg} {v : Int} (h : ¬ (e.Block < 1 ∨ (f.Blocks.length : Int) ≤ e.Block)) (h2 : e.Args.length = (edgP f e).length) (h3 : firstF (edgG f e) e.Args.length = v) : edgF f e = v := by unfold edgF; rw [if_neg h, if_neg (fun z => z h2), h3]
theorem edgG_2 {f : Fun} {e : Edg} {j : Nat} (h : valB f (e.Args.getD j default) = false) : edgG f e j = 2 := if_pos h
theorem edgG_17 {f : Fun} {e : Edg} {j : Nat} (h : valB f (e.Args.getD j default) = true) (h2 : valB f ((edgP f e).getD j default) = false ∨ cls f ((edgP f e).getD j default) ≠ cls f (e.Args.getD j default)) : edgG f e j = 17 := by unfold edgG; rw [if_neg (by rw [h]; decide), if_pos h2]
theorem edgG_0 {f : Fun} {e : Edg} {j : Nat} (h : valB f (e.Args.getD j default) = true) (h2 : ¬ (valB f ((edgP f e).getD j default) = false ∨ cls f ((edgP f e).getD j default) ≠ cls f (e.Args.getD j default))) : edgG f e j = 0 := by unfold edgG; rw [if_neg (by rw [h]; decide), if_neg h2]

set_option maxHeartbeats 1000000 in
theorem c_edge (f : Fun) (e : Edg) (hlen : e.Args.length ≤ maxLen) : ACallIs B.P 49 [f.av, e.av] (.i64 (edgF f e)) := by
  refine ACallIs.enter B _ _ Try.func49 rfl rfl Try.ntmps49 Try.results49 rfl fun hreal => ?_
  clear hreal
  refine AWp.seq (AWp.region ?_)
  intro _
  refine AWp.freezeObj 2 rfl rfl ?_
  refine AWp.freezeObj 3 rfl rfl ?_
  repeat' (first
    | refine AWp.seq ?_ | refine AWp.block ?_ | refine AWp.skip ?_ | refine AWp.exit ?_
    | refine AWp.region ?_ | refine AWp.draw mixed (by kernel_rfl) ?_
    | refine AWp.cond (And.intro (fun h => ?_) (fun h => ?_))
    | refine AWp.ret ⟨Or.inl rfl, rfl, ?_⟩
    | exact trivial | refine And.intro ?_ ?_ | intro _)
  all_goals first | assumption | exact tupI (edgF_1 (by (try simp only [bif_if] at *); grind)).symm | exact tupI (edgF_2 (by (try simp only [bif_if] at *); grind) (by (try simp only [bif_if, edgP] at *); grind)).symm | refine AWp.loop (fun k : Nat => ⟨[(2, .ptr f.cells), (5, ints (edgP f e)), (33, ints e.Args), (34, .i64 e.Args.length), (35, .i64 k)], []⟩) (fun k => k ≤ e.Args.length ∧ ∀ j, j < k → edgG f e j = 0) (fun k => e.Args.length - k) 0 ⟨Nat.zero_le _, fun j hj => absurd hj (by omega)⟩ ?_ ?_ | ((try simp only [bif_if] at *); grind)
  · repeat' (first | exact rfl | exact trivial | refine And.intro ?_ ?_)
  have hop : ¬ (e.Block < 1 ∨ (f.Blocks.length : Int) ≤ e.Block) := by (try simp only [bif_if] at *); grind
  have hel : e.Args.length = (edgP f e).length := by unfold edgP; (try simp only [bif_if] at *); grind
  intro k hk
  obtain ⟨hk, hg⟩ := hk
  refine AWp.seq (AWp.region ?_)
  intro _
  refine AWp.seq (AWp.cond (And.intro (fun h => ?_) (fun h => ?_)))
  · refine AWp.skip ?_
    have hk' : k < e.Args.length := by have := of_decide_eq_true h; omega
    have hv1 : valB f (e.Args.getD k default) = true → 0 ≤ e.Args.getD k default ∧ e.Args.getD k default < f.Values.length := idx_ok
    have hv2 : valB f ((edgP f e).getD k default) = true → 0 ≤ (edgP f e).getD k default ∧ (edgP f e).getD k default < f.Values.length := idx_ok
    repeat' (first
      | refine AWp.seq ?_ | refine AWp.block ?_ | refine AWp.skip ?_ | refine AWp.exit ?_
      | refine AWp.region ?_ | refine AWp.draw mixed (by kernel_rfl) ?_
      | refine AWp.cond (And.intro (fun h => ?_) (fun h => ?_))
      | refine AWp.ret ⟨Or.inl rfl, rfl, ?_⟩
      | refine CallX.pure (c_value f _) rfl rfl rfl ?_ | refine CallK.intro (fun _ => c_value f _) ?_
      | exact trivial | refine And.intro ?_ ?_ | intro _)
    all_goals first | assumption | exact Int.natCast_nonneg _ | exact Int.ofNat_lt.2 hk' | exact Int.ofNat_lt.2 (by omega) | (refine tupI (edgF_3 hop hel ((firstF_hit (k := k) hk' hg ?_).trans ?_)).symm <;> (clear hg; (try simp only [bif_if, Int.toNat_natCast, cls] at *); grind [edgG_2, edgG_17, cls])) | refine round_end (k + 1) ⟨hk', upto hg (by clear hg; (try simp only [bif_if, Int.toNat_natCast, cls] at *); grind [edgG_0, cls])⟩ (by repeat' (first | exact rfl | exact trivial | exact congrArg (fun z => some (AV.i64 z)) (wrap_succ hk' hlen) | refine And.intro ?_ ?_)) (by omega) | ((try simp only [bif_if, Int.toNat_natCast] at *); grind)
  have hk3 : ¬ (k : Int) < e.Args.length := of_decide_eq_false h
  refine AWp.exit ?_
  refine AWp.seq (AWp.region ?_)
  intro _
  refine AWp.ret ⟨Or.inl rfl, rfl, ?_⟩
  intro _
  exact tupI (edgF_3 hop hel (firstF_none (fun j hj => hg j (by omega)))).symm
end Go.Proofs.Ytdilfbdfefppbaa
