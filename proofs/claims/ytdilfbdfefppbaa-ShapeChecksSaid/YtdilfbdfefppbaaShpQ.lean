/- Contract of the document's makers. Condition: sizes. -/
import Derived.Test.YtdilfbdfefppbaaShpP
set_option linter.unusedVariables false
set_option linter.unusedSimpArgs false
namespace Go.Proofs.Ytdilfbdfefppbaa
open Go Go.Abs Go.RowKit

/-- What a function's sizes are when they may be. -/
structure SizOk (f : Fun) : Prop where
  blocks : 1 ≤ f.Blocks.length ∧ f.Blocks.length ≤ 16
  values : f.Values.length ≤ 160
  params : ∀ k, k < f.Blocks.length → (f.Blocks.getD k default).Params.length ≤ 5
  instrs : ∀ k, k < f.Blocks.length → (f.Blocks.getD k default).Instrs.length ≤ 40
  edges : ∀ k, k < f.Blocks.length → (f.Blocks.getD k default).Edges.length ≤ 3
  ops : ∀ k j, k < f.Blocks.length → j < (f.Blocks.getD k default).Instrs.length → ((f.Blocks.getD k default).Instrs.getD j default).Operands.length ≤ 6
  spo : ∀ k j, k < f.Blocks.length → j < (f.Blocks.getD k default).Instrs.length → ((f.Blocks.getD k default).Instrs.getD j default).Spoils.length ≤ 20
theorem sizOk_of {f : Fun} (h : sizF f = 0) : SizOk f := by
  have h1 : ¬ (f.Blocks.length < 1 ∨ 16 < f.Blocks.length ∨ 160 < f.Values.length) := fun c => by rw [sizF_1 c] at h; cases h
  rw [sizF_2 h1 rfl] at h
  have hz := firstF_zero h
  have h2 : ∀ k, k < f.Blocks.length → ¬ (5 < (f.Blocks.getD k default).Params.length ∨ 40 < (f.Blocks.getD k default).Instrs.length ∨ 3 < (f.Blocks.getD k default).Edges.length ∨ 160 < allF f.Blocks (k + 1)) := fun k hk c => by have := hz k hk; rw [sizG_1 c] at this; cases this
  have h3 : ∀ k, k < f.Blocks.length → ∀ j, j < (f.Blocks.getD k default).Instrs.length → sizI (f.Blocks.getD k default) j = 0 := fun k hk => by
    have := hz k hk
    rw [sizG_2 (h2 k hk) rfl] at this
    exact firstF_zero this
  have h4 : ∀ k j, k < f.Blocks.length → j < (f.Blocks.getD k default).Instrs.length → ¬ (6 < ((f.Blocks.getD k default).Instrs.getD j default).Operands.length ∨ 20 < ((f.Blocks.getD k default).Instrs.getD j default).Spoils.length) := fun k j hk hj c => by
    have := h3 k hk j hj
    unfold sizI at this
    rw [if_pos c] at this; cases this
  exact ⟨by omega, by omega, fun k hk => by have := h2 k hk; omega, fun k hk => by have := h2 k hk; omega, fun k hk => by have := h2 k hk; omega, fun k j hk hj => by have := h4 k j hk hj; omega, fun k j hk hj => by have := h4 k j hk hj; omega⟩
theorem mkO_len (x : Ins) (j : Nat) : (mkO x j).length ≤ j := by
  unfold mkO; rw [List.length_map]
  exact Nat.le_trans (List.length_filter_le _ _) (by rw [List.length_take]; omega)
theorem mkI_len {b : Blk} (h : ∀ j, j < b.Instrs.length → (b.Instrs.getD j default).Operands.length ≤ 6) : ∀ k, k ≤ b.Instrs.length → (mkI b k).length ≤ 6 * k
  | 0, _ => by unfold mkI; simp
  | k + 1, hk => by
    rw [mkI_succ (by omega), List.length_append]
    have h1 := mkI_len h k (by omega)
    have h2 := mkO_len (b.Instrs.getD k default) (b.Instrs.getD k default).Operands.length
    have h3 := h k (by omega)
    omega
theorem mkB_len {f : Fun} (h : SizOk f) : ∀ k, k ≤ f.Blocks.length → (mkB f.Blocks k).length ≤ 245 * k
  | 0, _ => by unfold mkB; simp
  | k + 1, hk => by
    rw [mkB_succ (by omega), List.length_append, List.length_append]
    have h1 := mkB_len h k (by omega)
    have h2 := mkI_len (h.ops k · (by omega)) _ (Nat.le_refl _)
    have h3 := h.params k (by omega)
    have h4 := h.instrs k (by omega)
    omega
end Go.Proofs.Ytdilfbdfefppbaa
