/- Contract of shape.sizes. No condition but what a slice may weigh. -/
import Derived.Test.YtdilfbdfefppbaaShpL
set_option linter.unusedVariables false
set_option linter.unusedSimpArgs false
namespace Go.Proofs.Ytdilfbdfefppbaa
open Go Go.Abs Go.RowKit

def allF (bs : List Blk) : Nat → Nat
  | 0 => 0
  | k + 1 => allF bs k + (bs.getD k default).Instrs.length
def sizI (b : Blk) (j : Nat) : Int := if 6 < (b.Instrs.getD j default).Operands.length ∨ 20 < (b.Instrs.getD j default).Spoils.length then 1 else 0
def sizG (bs : List Blk) (k : Nat) : Int :=
  if 5 < (bs.getD k default).Params.length ∨ 40 < (bs.getD k default).Instrs.length ∨ 3 < (bs.getD k default).Edges.length ∨ 160 < allF bs (k + 1) then 1
  else firstF (sizI (bs.getD k default)) (bs.getD k default).Instrs.length
def sizF (f : Fun) : Int :=
  if f.Blocks.length < 1 ∨ 16 < f.Blocks.length ∨ 160 < f.Values.length then 1 else firstF (sizG f.Blocks) f.Blocks.length
theorem sizF_1 {f : Fun} (h : f.Blocks.length < 1 ∨ 16 < f.Blocks.length ∨ 160 < f.Values.length) : sizF f = 1 := if_pos h
theorem sizF_2 {f : Fun} {v : Int} (h : ¬ (f.Blocks.length < 1 ∨ 16 < f.Blocks.length ∨ 160 < f.Values.length)) (hv : firstF (sizG f.Blocks) f.Blocks.length = v) : sizF f = v := by unfold sizF; rw [if_neg h, hv]
theorem sizG_1 {bs : List Blk} {k : Nat} (h : 5 < (bs.getD k default).Params.length ∨ 40 < (bs.getD k default).Instrs.length ∨ 3 < (bs.getD k default).Edges.length ∨ 160 < allF bs (k + 1)) : sizG bs k = 1 := if_pos h
theorem sizG_2 {bs : List Blk} {k : Nat} {v : Int} (h : ¬ (5 < (bs.getD k default).Params.length ∨ 40 < (bs.getD k default).Instrs.length ∨ 3 < (bs.getD k default).Edges.length ∨ 160 < allF bs (k + 1))) (hv : firstF (sizI (bs.getD k default)) (bs.getD k default).Instrs.length = v) : sizG bs k = v := by unfold sizG; rw [if_neg h, hv]

set_option maxHeartbeats 1000000 in
theorem c_sizes (f : Fun) : ACallIs B.P 47 [f.av] (.i64 (sizF f)) := by
  refine ACallIs.enter B _ _ Try.func47 rfl rfl Try.ntmps47 Try.results47 rfl fun hreal => ?_
  clear hreal
  refine AWp.seq (AWp.region ?_)
  intro _
  refine AWp.freezeObj 1 rfl rfl ?_
  repeat' (first
    | refine AWp.seq ?_ | refine AWp.block ?_ | refine AWp.skip ?_ | refine AWp.exit ?_
    | refine AWp.region ?_ | refine AWp.draw mixed (by kernel_rfl) ?_
    | refine AWp.cond (And.intro (fun h => ?_) (fun h => ?_))
    | refine AWp.ret ⟨Or.inl rfl, rfl, ?_⟩
    | exact trivial | refine And.intro ?_ ?_ | intro _)
  all_goals first | assumption | exact tupI (sizF_1 (by (try simp only [bif_if] at *); grind)).symm | refine AWp.loop (fun k : Nat => ⟨[(3, .i64 (allF f.Blocks k)), (25, roL 3 Blk.cells f.Blocks), (26, .i64 f.Blocks.length), (27, .i64 k)], []⟩) (fun k => k ≤ f.Blocks.length ∧ allF f.Blocks k ≤ 160 ∧ ∀ j, j < k → sizG f.Blocks j = 0) (fun k => f.Blocks.length - k) 0 ⟨Nat.zero_le _, Nat.zero_le _, fun j hj => absurd hj (by omega)⟩ ?_ ?_ | ((try simp only [bif_if] at *); grind)
  · repeat' (first | exact rfl | exact trivial | refine And.intro ?_ ?_)
  have hop : ¬ (f.Blocks.length < 1 ∨ 16 < f.Blocks.length ∨ 160 < f.Values.length) := by (try simp only [bif_if] at *); grind
  have hlen : f.Blocks.length ≤ maxLen := by unfold maxLen; omega
  intro k hk
  obtain ⟨hk, ha, hg⟩ := hk
  refine AWp.seq (AWp.region ?_)
  intro _
  refine AWp.seq (AWp.cond (And.intro (fun h => ?_) (fun h => ?_)))
  · refine AWp.skip ?_
    have hk' : k < f.Blocks.length := by have := of_decide_eq_true h; omega
    have hS : allF f.Blocks (k + 1) = allF f.Blocks k + (f.Blocks.getD k default).Instrs.length := rfl
    have hw : (f.Blocks.getD k default).Instrs.length ≤ 40 → IntKind.i64.wrap ((allF f.Blocks k : Int) + (f.Blocks.getD k default).Instrs.length) = ((allF f.Blocks (k + 1) : Nat) : Int) := fun h => by rw [hS, wrap_in (by omega) (by omega)]; omega
    repeat' (first
      | refine AWp.seq ?_ | refine AWp.block ?_ | refine AWp.skip ?_ | refine AWp.exit ?_
      | refine AWp.region ?_ | refine AWp.draw mixed (by kernel_rfl) ?_
      | refine AWp.cond (And.intro (fun h => ?_) (fun h => ?_))
      | refine AWp.ret ⟨Or.inl rfl, rfl, ?_⟩
      | exact trivial | refine And.intro ?_ ?_ | intro _)
    all_goals first | assumption | exact Int.natCast_nonneg _ | exact Int.ofNat_lt.2 hk' | exact tupI (sizF_2 hop ((firstF_hit (k := k) hk' hg (by rw [sizG_1 (by clear hg; (try simp only [bif_if, Int.toNat_natCast] at *); grind)]; decide)).trans (sizG_1 (by clear hg; (try simp only [bif_if, Int.toNat_natCast] at *); grind)))).symm | refine AWp.loop (fun j : Nat => ⟨[(3, .i64 (allF f.Blocks (k + 1))), (25, roL 3 Blk.cells f.Blocks), (26, .i64 f.Blocks.length), (27, .i64 k), (55, roL 3 Ins.cells (f.Blocks.getD k default).Instrs), (56, .i64 (f.Blocks.getD k default).Instrs.length), (57, .i64 j)], []⟩) (fun j => j ≤ (f.Blocks.getD k default).Instrs.length ∧ ∀ a, a < j → sizI (f.Blocks.getD k default) a = 0) (fun j => (f.Blocks.getD k default).Instrs.length - j) 0 ⟨Nat.zero_le _, fun j hj => absurd hj (by omega)⟩ ?_ ?_ | ((try simp only [bif_if, Int.toNat_natCast] at *); grind)
    · repeat' (first | exact rfl | exact trivial | exact congrArg (fun z => some (AV.i64 z)) (hw (by (try simp only [bif_if, Int.toNat_natCast] at *); grind)) | refine And.intro ?_ ?_)
    intro j hj
    obtain ⟨hj, hgj⟩ := hj
    have hng : ¬ (5 < (f.Blocks.getD k default).Params.length ∨ 40 < (f.Blocks.getD k default).Instrs.length ∨ 3 < (f.Blocks.getD k default).Edges.length ∨ 160 < allF f.Blocks (k + 1)) := (by clear hg hgj; (try simp only [bif_if, Int.toNat_natCast] at *); grind)
    have hli : (f.Blocks.getD k default).Instrs.length ≤ maxLen := by unfold maxLen; omega
    refine AWp.seq (AWp.region ?_)
    intro _
    refine AWp.seq (AWp.cond (And.intro (fun h => ?_) (fun h => ?_)))
    · refine AWp.skip ?_
      have hj' : j < (f.Blocks.getD k default).Instrs.length := by have := of_decide_eq_true h; omega
      repeat' (first
        | refine AWp.seq ?_ | refine AWp.block ?_ | refine AWp.skip ?_ | refine AWp.exit ?_
        | refine AWp.region ?_ | refine AWp.draw mixed (by kernel_rfl) ?_
        | refine AWp.cond (And.intro (fun h => ?_) (fun h => ?_))
        | refine AWp.ret ⟨Or.inl rfl, rfl, ?_⟩
        | exact trivial | refine And.intro ?_ ?_ | intro _)
      all_goals first | assumption | exact Int.natCast_nonneg _ | exact Int.ofNat_lt.2 hj' | exact tupI (sizF_2 hop ((firstF_hit (k := k) hk' hg (by rw [sizG_2 hng (firstF_hit (k := j) hj' hgj (by clear hg hgj; simp only [sizI]; (try simp only [bif_if, Int.toNat_natCast] at *); grind))]; exact (by clear hg hgj; simp only [sizI]; (try simp only [bif_if, Int.toNat_natCast] at *); grind))).trans (sizG_2 hng ((firstF_hit (k := j) hj' hgj (by clear hg hgj; simp only [sizI]; (try simp only [bif_if, Int.toNat_natCast] at *); grind)).trans (by clear hg hgj; simp only [sizI]; (try simp only [bif_if, Int.toNat_natCast] at *); grind))))).symm | refine round_end (j + 1) ⟨hj', upto hgj (by clear hg hgj; simp only [sizI]; (try simp only [bif_if, Int.toNat_natCast] at *); grind)⟩ (by repeat' (first | exact rfl | exact trivial | exact congrArg (fun z => some (AV.i64 z)) (wrap_succ hj' hli) | refine And.intro ?_ ?_)) (by omega) | ((try simp only [bif_if, Int.toNat_natCast] at *); grind)
    have hj3 : ¬ (j : Int) < (f.Blocks.getD k default).Instrs.length := of_decide_eq_false h
    refine AWp.exit ?_
    refine AWp.region ?_
    intro _
    refine round_end (k + 1) ⟨hk', by omega, upto hg (sizG_2 hng (firstF_none (fun a ha => hgj a (by omega))))⟩ (by repeat' (first | exact rfl | exact trivial | exact congrArg (fun z => some (AV.i64 z)) (wrap_succ hk' hlen) | refine And.intro ?_ ?_)) (by omega)
  have hk3 : ¬ (k : Int) < f.Blocks.length := of_decide_eq_false h
  refine AWp.exit ?_
  refine AWp.seq (AWp.region ?_)
  intro _
  refine AWp.ret ⟨Or.inl rfl, rfl, ?_⟩
  intro _
  exact tupI (sizF_2 hop (firstF_none (fun j hj => hg j (by omega)))).symm
end Go.Proofs.Ytdilfbdfefppbaa
