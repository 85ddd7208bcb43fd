/- Contract of the document's makers. Condition: sizes. -/
import Derived.Test.YtdilfbdfefppbaaShpO
import Derived.Test.YtdilfbdfefppbaaLowF
set_option linter.unusedVariables false
set_option linter.unusedSimpArgs false
namespace Go.Proofs.Ytdilfbdfefppbaa
open Go Go.Abs Go.RowKit

/-- The values made by the first operands, instructions, blocks. -/
def mkO (x : Ins) (j : Nat) : List Int := ((x.Operands.take j).filter (fun o => o.Kind == 2)).map (·.Value)
def mkI (b : Blk) (k : Nat) : List Int := (b.Instrs.take k).flatMap (fun x => mkO x x.Operands.length)
def mkB (bs : List Blk) (k : Nat) : List Int := (bs.take k).flatMap (fun b => b.Params ++ mkI b b.Instrs.length)
def makL (f : Fun) : List Int := mkB f.Blocks f.Blocks.length
theorem mkO_hit {x : Ins} {j : Nat} (h : j < x.Operands.length) (hk : ((x.Operands.getD j default).Kind == 2) = true) : mkO x (j + 1) = mkO x j ++ [(x.Operands.getD j default).Value] := by
  unfold mkO; rw [take_succ_getD h, List.filter_append, List.map_append]; simp only [List.filter_cons, hk, if_true, List.filter_nil, List.map_cons, List.map_nil]
theorem mkO_miss {x : Ins} {j : Nat} (h : j < x.Operands.length) (hk : ((x.Operands.getD j default).Kind == 2) = false) : mkO x (j + 1) = mkO x j := by
  unfold mkO; rw [take_succ_getD h, List.filter_append, List.map_append]; simp only [List.filter_cons, hk, if_false, List.filter_nil, List.map_nil, List.append_nil, Bool.false_eq_true]
theorem mkI_succ {b : Blk} {k : Nat} (h : k < b.Instrs.length) : mkI b (k + 1) = mkI b k ++ mkO (b.Instrs.getD k default) (b.Instrs.getD k default).Operands.length := by
  unfold mkI; rw [take_succ_getD h, List.flatMap_append]; simp
theorem mkB_succ {bs : List Blk} {k : Nat} (h : k < bs.length) : mkB bs (k + 1) = mkB bs k ++ ((bs.getD k default).Params ++ mkI (bs.getD k default) (bs.getD k default).Instrs.length) := by
  unfold mkB; rw [take_succ_getD h, List.flatMap_append]; simp
theorem snoc_get {L : List Int} {v : Int} {i : Nat} (hi : i < L.length + 1) : (if i < L.length then intC (L.getD i default) else intC v) = intC ((L ++ [v]).getD i default) := by
  by_cases h : i < L.length
  · rw [if_pos h, List.getD_eq_getElem?_getD, List.getD_eq_getElem?_getD, List.getElem?_append_left h]
  · obtain rfl : i = L.length := by omega
    rw [if_neg h, List.getD_eq_getElem?_getD]; simp
end Go.Proofs.Ytdilfbdfefppbaa
