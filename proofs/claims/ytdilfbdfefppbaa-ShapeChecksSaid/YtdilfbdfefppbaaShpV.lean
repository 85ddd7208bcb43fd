/- What shape.Check answers. Condition: none. -/
import Derived.Test.YtdilfbdfefppbaaShpU
set_option linter.unusedVariables false
set_option linter.unusedSimpArgs false
namespace Go.Proofs.Ytdilfbdfefppbaa
open Go Go.Abs Go.RowKit

theorem getD_mem {α : Type} {l : List α} {k : Nat} {d : α} (h : k < l.length) : l.getD k d ∈ l := by
  rw [List.getD_eq_getElem?_getD, List.getElem?_eq_getElem h, Option.getD_some]; exact List.getElem_mem h
theorem ok_blk {f : Fun} (h : Fun.ok f) {k : Nat} (hk : k < f.Blocks.length) : Blk.ok (f.Blocks.getD k default) := h.2.2 _ (getD_mem hk)
theorem ok_ins {b : Blk} (h : Blk.ok b) {k : Nat} (hk : k < b.Instrs.length) : Ins.ok (b.Instrs.getD k default) := h.2.1.2 _ (getD_mem hk)
theorem ok_edg {b : Blk} (h : Blk.ok b) {k : Nat} (hk : k < b.Edges.length) : Edg.ok (b.Edges.getD k default) := h.2.2.2 _ (getD_mem hk)
theorem ok_opd {x : Ins} (h : Ins.ok x) {k : Nat} (hk : k < x.Operands.length) : Opd.ok (x.Operands.getD k default) := h.2.1.2 _ (getD_mem hk)
theorem lok_max {α : Type} {by_ : Nat} {p : α → Prop} {l : List α} (h : LOk by_ p l) (hb : 0 < by_) : l.length ≤ maxLen := by
  have := h.1
  have h2 : l.length * 1 ≤ l.length * by_ := Nat.mul_le_mul_left _ hb
  unfold maxLen; omega
def clsG (f : Fun) (j : Nat) : Int := if f.Values.getD j default < 0 ∨ 2 ≤ f.Values.getD j default then 17 else 0
def insG (f : Fun) (m : Mch) (b : Blk) (j : Nat) : Int := insF f m (b.Instrs.getD j default)
def edgH (f : Fun) (b : Blk) (j : Nat) : Int := edgF f (b.Edges.getD j default)
def blkF (f : Fun) (m : Mch) (b : Blk) : Int :=
  if firstF (insG f m b) b.Instrs.length ≠ 0 then firstF (insG f m b) b.Instrs.length
  else if 1 < b.Edges.length ∧ b.Instrs.length = 0 then 4
  else firstF (edgH f b) b.Edges.length
def blkG (f : Fun) (m : Mch) (k : Nat) : Int := blkF f m (f.Blocks.getD k default)
def chkF (f : Fun) (m : Mch) : Int :=
  if machF m ≠ 0 then machF m
  else if sizF f ≠ 0 then sizF f
  else if firstF (clsG f) f.Values.length ≠ 0 then firstF (clsG f) f.Values.length
  else if 0 < (f.Blocks.getD 0 default).Params.length then 4
  else if firstF (blkG f m) f.Blocks.length ≠ 0 then firstF (blkG f m) f.Blocks.length
  else onceF f
theorem vOk_of {f : Fun} (h1 : sizF f = 0) (h : firstF (clsG f) f.Values.length = 0) : VOk f := by
  refine ⟨(sizOk_of h1).values, fun c hc => ?_⟩
  obtain ⟨i, hi, rfl⟩ := List.getElem_of_mem hc
  have := firstF_zero h i hi
  unfold clsG at this
  rw [List.getD_eq_getElem?_getD, List.getElem?_eq_getElem hi, Option.getD_some] at this
  split at this
  · cases this
  · omega
theorem chkF_1 {f : Fun} {m : Mch} (h : machF m ≠ 0) : chkF f m = machF m := if_pos h
theorem chkF_2 {f : Fun} {m : Mch} (h : machF m = 0) (h2 : sizF f ≠ 0) : chkF f m = sizF f := by unfold chkF; rw [h, if_neg (fun h => h rfl), if_pos h2]
theorem chkF_3 {f : Fun} {m : Mch} (h : machF m = 0) (h2 : sizF f = 0) {v : Int} (h3 : firstF (clsG f) f.Values.length = v) (hv : v ≠ 0) : chkF f m = v := by
  unfold chkF; rw [h, if_neg (fun h => h rfl), h2, if_neg (fun h => h rfl), h3, if_pos hv]
theorem chkF_4 {f : Fun} {m : Mch} (h : machF m = 0) (h2 : sizF f = 0) (h3 : firstF (clsG f) f.Values.length = 0) (h4 : 0 < (f.Blocks.getD 0 default).Params.length) : chkF f m = 4 := by
  unfold chkF; rw [h, if_neg (fun h => h rfl), h2, if_neg (fun h => h rfl), h3, if_neg (fun h => h rfl), if_pos h4]
theorem chkF_5 {f : Fun} {m : Mch} (h : machF m = 0) (h2 : sizF f = 0) (h3 : firstF (clsG f) f.Values.length = 0) (h4 : ¬ 0 < (f.Blocks.getD 0 default).Params.length) {v : Int} (h5 : firstF (blkG f m) f.Blocks.length = v) (hv : v ≠ 0) : chkF f m = v := by
  unfold chkF; rw [h, if_neg (fun h => h rfl), h2, if_neg (fun h => h rfl), h3, if_neg (fun h => h rfl), if_neg h4, h5, if_pos hv]
theorem chkF_6 {f : Fun} {m : Mch} (h : machF m = 0) (h2 : sizF f = 0) (h3 : firstF (clsG f) f.Values.length = 0) (h4 : ¬ 0 < (f.Blocks.getD 0 default).Params.length) (h5 : firstF (blkG f m) f.Blocks.length = 0) : chkF f m = onceF f := by
  unfold chkF; rw [h, if_neg (fun h => h rfl), h2, if_neg (fun h => h rfl), h3, if_neg (fun h => h rfl), if_neg h4, h5, if_neg (fun h => h rfl)]
theorem blkF_1 {f : Fun} {m : Mch} {b : Blk} {v : Int} (h : firstF (insG f m b) b.Instrs.length = v) (hv : v ≠ 0) : blkF f m b = v := by unfold blkF; rw [h, if_pos hv]
theorem blkF_2 {f : Fun} {m : Mch} {b : Blk} (h : firstF (insG f m b) b.Instrs.length = 0) (h2 : 1 < b.Edges.length ∧ b.Instrs.length = 0) : blkF f m b = 4 := by unfold blkF; rw [h, if_neg (fun h => h rfl), if_pos h2]
theorem blkF_3 {f : Fun} {m : Mch} {b : Blk} {v : Int} (h : firstF (insG f m b) b.Instrs.length = 0) (h2 : ¬ (1 < b.Edges.length ∧ b.Instrs.length = 0)) (h3 : firstF (edgH f b) b.Edges.length = v) : blkF f m b = v := by unfold blkF; rw [h, if_neg (fun h => h rfl), if_neg h2, h3]
end Go.Proofs.Ytdilfbdfefppbaa
