/- Contracts of package shape and of the document's chapter on it. Conditions: as each says. -/
import Derived.Test.YtgkdmdfjfepcdaaDoorLow
set_option linter.unusedVariables false
set_option linter.unusedSimpArgs false
/- Contracts of shape.value, operand, reuse and of the document's valueMay, classOf, operandFault, reuseFault: one same answer each. Condition: the classes of values are 0 or 1. -/
namespace Go.Proofs.YtgkdmdfjfepcdaaDoor
open Go Go.Abs Go.RowKit

def cls (f : Fun) (v : Int) : Int := f.Values.getD v.toNat default
def _root_.Go.Abs.Mch.reg (m : Mch) (c : Int) : Int := [m.r0, m.r1].getD c.toNat 0
def valB (f : Fun) (v : Int) : Bool := decide (0 ≤ v) && decide (v < f.Values.length)
def VOk (f : Fun) : Prop := f.Values.length ≤ 160 ∧ ∀ c ∈ f.Values, 0 ≤ c ∧ c < 2
theorem cls_ok {f : Fun} (h : VOk f) {v : Int} (hv : valB f v = true) : 0 ≤ cls f v ∧ cls f v < 2 := by
  unfold valB at hv
  simp only [Bool.and_eq_true, decide_eq_true_eq] at hv
  have hlt : v.toNat < f.Values.length := by omega
  unfold cls
  rw [List.getD_eq_getElem?_getD, List.getElem?_eq_getElem hlt]
  exact h.2 _ (List.getElem_mem hlt)
def opdF (f : Fun) (m : Mch) (o : Opd) : Int :=
  if (o.Kind ≠ 1 ∧ o.Kind ≠ 2) ∨ o.Limit < 1 ∨ 5 < o.Limit then 3
  else if valB f o.Value = false then 2
  else if o.Limit = 4 ∧ (o.N < 0 ∨ m.reg (cls f o.Value) ≤ o.N) then 2
  else if (o.Limit ≤ 3 ∧ o.N ≠ 0) ∨ (o.Limit = 5 ∧ (o.Kind ≠ 2 ∨ o.Late = false)) then 4 else 0

theorem c_value (f : Fun) (v : Int) : ACallIs B.P 63 [f.av, .i64 v] (.bool (valB f v)) := by
  refine ACallIs.enter B _ _ Tryd.func63 rfl rfl Tryd.ntmps63 Tryd.results63 rfl fun hreal => ?_
  repeat' (first
    | refine AWp.seq ?_ | refine AWp.block ?_ | refine AWp.skip ?_ | refine AWp.exit ?_
    | refine AWp.region ?_ | refine AWp.draw mixed (by kernel_rfl) ?_
    | refine AWp.cond (And.intro (fun h => ?_) (fun h => ?_))
    | refine AWp.ret ⟨Or.inl rfl, rfl, ?_⟩
    | exact trivial | refine And.intro ?_ ?_ | intro _)
  all_goals first | assumption | (simp_all [tupOf, valB]; done) | skip
  all_goals trace_state
theorem c_classOf (f : Fun) (v : Int) (hv : valB f v = true) : ACallIs B.P 77 [f.av, .i64 v] (.i64 (cls f v)) := by
  refine ACallIs.enter B _ _ Tryd.func77 rfl rfl Tryd.ntmps77 Tryd.results77 rfl fun hreal => ?_
  repeat' (first
    | refine AWp.seq ?_ | refine AWp.block ?_ | refine AWp.skip ?_ | refine AWp.exit ?_
    | refine AWp.region ?_ | refine AWp.draw mixed (by kernel_rfl) ?_
    | refine AWp.cond (And.intro (fun h => ?_) (fun h => ?_))
    | refine AWp.ret ⟨Or.inl rfl, rfl, ?_⟩
    | exact trivial | refine And.intro ?_ ?_ | intro _)
  all_goals first | assumption | (simp [valB] at hv; omega) | rfl | skip
  all_goals trace_state
theorem valB_in (f : Fun) (v : Int) : inB v 0 ((f.Values.length : Int) - 1) = valB f v := by
  unfold inB valB
  rw [Bool.eq_iff_iff]
  simp only [Bool.and_eq_true, decide_eq_true_eq]
  omega
theorem c_valueMay (f : Fun) (hf : f.Values.length ≤ 160) (v : Int) : ACallIs B.P 55 [f.av, .i64 v] (.bool (valB f v)) := by
  have hw : IntKind.i64.wrap ((f.Values.length : Int) - 1) = f.Values.length - 1 := wrap_in (by omega) (by omega)
  refine ACallIs.enter B _ _ Tryd.func55 rfl rfl Tryd.ntmps55 Tryd.results55 rfl fun hreal => ?_
  repeat' (first
    | refine AWp.seq ?_ | refine AWp.block ?_ | refine AWp.skip ?_ | refine AWp.exit ?_
    | refine AWp.region ?_ | refine AWp.draw mixed (by kernel_rfl) ?_
    | refine AWp.cond (And.intro (fun h => ?_) (fun h => ?_))
    | refine AWp.ret ⟨Or.inl rfl, rfl, ?_⟩
    | refine CallX.pure (c_In v 0 (IntKind.i64.wrap ((f.Values.length : Int) - 1))) rfl rfl rfl ?_ | refine CallK.intro (fun _ => c_In v 0 (IntKind.i64.wrap ((f.Values.length : Int) - 1))) ?_
    | exact trivial | refine And.intro ?_ ?_ | intro _)
  all_goals first | assumption | (rw [hw, valB_in]; rfl) | skip
theorem idx_ok {f : Fun} {v : Int} (h : valB f v = true) : 0 ≤ v ∧ v < f.Values.length := by simpa [valB] using h
set_option maxHeartbeats 4000000 in
theorem c_operand (f : Fun) (m : Mch) (o : Opd) (hf : VOk f) : ACallIs B.P 58 [f.av, m.av, o.av] (.i64 (opdF f m o)) := by
  have hc : valB f o.Value = true → 0 ≤ f.Values.getD o.Value.toNat default ∧ f.Values.getD o.Value.toNat default < 2 := fun h => cls_ok hf h
  have hv : valB f o.Value = true → 0 ≤ o.Value ∧ o.Value < f.Values.length := idx_ok
  refine ACallIs.enter B _ _ Tryd.func58 rfl rfl Tryd.ntmps58 Tryd.results58 rfl fun hreal => ?_
  clear hreal
  refine AWp.seq (AWp.region ?_)
  intro _
  refine AWp.freezeObj 3 rfl rfl ?_
  refine AWp.freezeObj 4 rfl rfl ?_
  refine AWp.freezeObj 5 rfl rfl ?_
  repeat' (first
    | refine AWp.seq ?_ | refine AWp.block ?_ | refine AWp.skip ?_ | refine AWp.exit ?_
    | refine AWp.region ?_ | refine AWp.draw mixed (by kernel_rfl) ?_
    | refine AWp.cond (And.intro (fun h => ?_) (fun h => ?_))
    | refine AWp.ret ⟨Or.inl rfl, rfl, ?_⟩
    | refine CallX.pure (c_value f o.Value) rfl rfl rfl ?_ | refine CallK.intro (fun _ => c_value f o.Value) ?_
    | exact trivial | refine And.intro ?_ ?_ | intro _)
  all_goals first | assumption | ((try simp only [tupOf, bif_if, opdF, cls, Mch.reg] at *); grind)
theorem mreg_small {m : Mch} (hm : machF m = 0) (c : Int) : m.reg c ≤ 10 ∧ 0 ≤ m.reg c := by
  unfold machF inB at hm
  unfold Mch.reg
  have : (2 ≤ m.r0 ∧ m.r0 ≤ 10) ∧ (2 ≤ m.r1 ∧ m.r1 ≤ 10) := by
    apply Classical.byContradiction; intro h
    rw [if_neg (by simp only [Bool.and_eq_true, decide_eq_true_eq]; exact h)] at hm; cases hm
  cases c.toNat with
  | zero => show m.r0 ≤ 10 ∧ 0 ≤ m.r0; omega
  | succ n => cases n with
    | zero => show m.r1 ≤ 10 ∧ 0 ≤ m.r1; omega
    | succ n => show (0 : Int) ≤ 10 ∧ (0 : Int) ≤ 0; omega
set_option maxHeartbeats 4000000 in
theorem c_operandFault (f : Fun) (m : Mch) (o : Opd) (hf : VOk f) (hm : machF m = 0) : ACallIs B.P 73 [f.av, m.av, o.av] (.i64 (opdF f m o)) := by
  have hc : valB f o.Value = true → 0 ≤ f.Values.getD o.Value.toNat default ∧ f.Values.getD o.Value.toNat default < 2 := fun h => cls_ok hf h
  have hv : valB f o.Value = true → 0 ≤ o.Value ∧ o.Value < f.Values.length := idx_ok
  have hr := mreg_small hm (cls f o.Value)
  have hw : IntKind.i64.wrap (m.reg (cls f o.Value) - 1) = m.reg (cls f o.Value) - 1 := wrap_in (by omega) (by omega)
  refine ACallIs.enter B _ _ Tryd.func73 rfl rfl Tryd.ntmps73 Tryd.results73 rfl fun hreal => ?_
  clear hreal
  refine AWp.seq (AWp.region ?_)
  intro _
  refine AWp.freezeObj 3 rfl rfl ?_
  refine AWp.freezeObj 4 rfl rfl ?_
  refine AWp.freezeObj 5 rfl rfl ?_
  repeat' (first
    | refine AWp.seq ?_ | refine AWp.block ?_ | refine AWp.skip ?_ | refine AWp.exit ?_
    | refine AWp.region ?_ | refine AWp.draw mixed (by kernel_rfl) ?_
    | refine AWp.cond (And.intro (fun h => ?_) (fun h => ?_))
    | refine AWp.ret ⟨Or.inl rfl, rfl, ?_⟩
    | refine CallX.pure (c_valueMay f hf.1 o.Value) rfl rfl rfl ?_ | refine CallK.intro (fun _ => c_valueMay f hf.1 o.Value) ?_
    | refine CallX.pure (c_classOf f o.Value (by grind)) rfl rfl rfl ?_ | refine CallK.intro (fun _ => c_classOf f o.Value (by grind)) ?_
    | refine CallX.pure (c_In _ _ _) rfl rfl rfl ?_ | refine CallK.intro (fun _ => c_In _ _ _) ?_
    | exact trivial | refine And.intro ?_ ?_ | intro _)
  all_goals first | assumption | ((try simp only [tupOf, bif_if, opdF, cls, Mch.reg, inB] at *); grind)
end Go.Proofs.YtgkdmdfjfepcdaaDoor

/- Contracts of shape.reuse, fixed, spoils, slices.Index and Contains at api.Reg, and of the document's reuseFault, fixedReg, spoilt, spoilsFault. Condition: what was checked ahead of them. -/
namespace Go.Proofs.YtgkdmdfjfepcdaaDoor
open Go Go.Abs Go.RowKit

def _root_.Go.Abs.Ins.opd (x : Ins) (n : Int) : Opd := x.Operands.getD n.toNat default
/-- What a first look at its operands says of an instruction. -/
structure OpsOk (f : Fun) (x : Ins) : Prop where
  len : x.Operands.length ≤ 6
  val : ∀ j, j < x.Operands.length → valB f (x.Operands.getD j default).Value = true
  kind : ∀ j, j < x.Operands.length → (x.Operands.getD j default).Kind = 1 ∨ (x.Operands.getD j default).Kind = 2
  limit : ∀ j, j < x.Operands.length → 1 ≤ (x.Operands.getD j default).Limit ∧ (x.Operands.getD j default).Limit ≤ 5
  n : ∀ j, j < x.Operands.length → (x.Operands.getD j default).Limit = 4 → 0 ≤ (x.Operands.getD j default).N ∧ (x.Operands.getD j default).N < 10
def reuF (f : Fun) (x : Ins) (o : Opd) : Int :=
  if o.N < 0 ∨ (x.Operands.length : Int) ≤ o.N then 6
  else if (x.opd o.N).Kind ≠ 1 ∨ (x.opd o.N).Late = true then 4
  else if cls f (x.opd o.N).Value ≠ cls f o.Value then 17 else 0

set_option maxHeartbeats 600000 in
theorem c_reuse (f : Fun) (x : Ins) (o : Opd) (hx : OpsOk f x) (ho : valB f o.Value = true) : ACallIs B.P 59 [f.av, x.av, o.av] (.i64 (reuF f x o)) := by
  have hu : ¬ (o.N < 0 ∨ (x.Operands.length : Int) ≤ o.N) → valB f (x.opd o.N).Value = true := fun h => hx.val _ (by omega)
  have hi : ¬ (o.N < 0 ∨ (x.Operands.length : Int) ≤ o.N) → 0 ≤ (x.opd o.N).Value ∧ (x.opd o.N).Value < f.Values.length := fun h => idx_ok (hu h)
  have hv := idx_ok ho
  refine ACallIs.enter B _ _ Tryd.func59 rfl rfl Tryd.ntmps59 Tryd.results59 rfl fun hreal => ?_
  clear hreal
  refine AWp.seq (AWp.region ?_)
  intro _
  refine AWp.freezeObj 3 rfl rfl ?_
  refine AWp.freezeObj 4 rfl rfl ?_
  refine AWp.freezeObj 5 rfl rfl ?_
  repeat' (first
    | refine AWp.seq ?_ | refine AWp.block ?_ | refine AWp.skip ?_ | refine AWp.exit ?_
    | refine AWp.region ?_ | refine AWp.draw mixed (by kernel_rfl) ?_
    | refine AWp.cond (And.intro (fun h => ?_) (fun h => ?_))
    | refine AWp.ret ⟨Or.inl rfl, rfl, ?_⟩
    | exact trivial | refine And.intro ?_ ?_ | intro _)
  all_goals first | assumption | ((try simp only [tupOf, bif_if, reuF, cls, Ins.opd] at *); grind)
set_option maxHeartbeats 600000 in
theorem c_reuseFault (f : Fun) (x : Ins) (o : Opd) (hx : OpsOk f x) (ho : valB f o.Value = true) : ACallIs B.P 74 [f.av, x.av, o.av] (.i64 (reuF f x o)) := by
  have hu : ¬ (o.N < 0 ∨ (x.Operands.length : Int) ≤ o.N) → valB f (x.opd o.N).Value = true := fun h => hx.val _ (by omega)
  have hk : ¬ (o.N < 0 ∨ (x.Operands.length : Int) ≤ o.N) → (x.opd o.N).Kind = 1 ∨ (x.opd o.N).Kind = 2 := fun h => hx.kind _ (by omega)
  have hl := hx.len
  have hw : IntKind.i64.wrap ((x.Operands.length : Int) - 1) = x.Operands.length - 1 := wrap_in (by omega) (by omega)
  refine ACallIs.enter B _ _ Tryd.func74 rfl rfl Tryd.ntmps74 Tryd.results74 rfl fun hreal => ?_
  clear hreal
  refine AWp.seq (AWp.region ?_)
  intro _
  refine AWp.freezeObj 3 rfl rfl ?_
  refine AWp.freezeObj 4 rfl rfl ?_
  refine AWp.freezeObj 5 rfl rfl ?_
  repeat' (first
    | refine AWp.seq ?_ | refine AWp.block ?_ | refine AWp.skip ?_ | refine AWp.exit ?_
    | refine AWp.region ?_ | refine AWp.draw mixed (by kernel_rfl) ?_
    | refine AWp.cond (And.intro (fun h => ?_) (fun h => ?_))
    | refine AWp.ret ⟨Or.inl rfl, rfl, ?_⟩
    | refine CallX.pure (c_In _ _ _) rfl rfl rfl ?_ | refine CallK.intro (fun _ => c_In _ _ _) ?_
    | refine CallX.pure (c_classOf f (x.opd o.N).Value (hu (by grind [inB]))) rfl rfl rfl ?_ | refine CallK.intro (fun _ => c_classOf f (x.opd o.N).Value (hu (by grind [inB]))) ?_
    | refine CallX.pure (c_classOf f o.Value ho) rfl rfl rfl ?_ | refine CallK.intro (fun _ => c_classOf f o.Value ho) ?_
    | exact trivial | refine And.intro ?_ ?_ | intro _)
  all_goals first | assumption | ((try simp only [tupOf, bif_if, reuF, Ins.opd, inB] at *); grind)

end Go.Proofs.YtgkdmdfjfepcdaaDoor

/- Contracts of shape.fixed and of the document's fixedReg. Condition: what was checked ahead of them. -/
namespace Go.Proofs.YtgkdmdfjfepcdaaDoor
open Go Go.Abs Go.RowKit

def tgt (x : Ins) (o : Opd) : Opd := if o.Limit = 5 then x.opd o.N else o
theorem tup_ab {a a' b b' : Int} {c c' : Bool} (h1 : a = a') (h2 : b = b') (h3 : c = c') : AV.tup [.agg [.i64 a, .i64 b], .bool c] = .tup [.agg [.i64 a', .i64 b'], .bool c'] := by rw [h1, h2, h3]
set_option maxHeartbeats 600000 in
theorem c_fixed (f : Fun) (x : Ins) (o : Opd) (h5 : o.Limit = 5 → 0 ≤ o.N ∧ o.N < x.Operands.length) (ht : valB f (tgt x o).Value = true) :
    ACallIs B.P 78 [f.av, x.av, o.av] (.tup [.agg [.i64 (if (tgt x o).Limit = 4 then cls f (tgt x o).Value else 0), .i64 (if (tgt x o).Limit = 4 then (tgt x o).N else 0)], .bool (decide ((tgt x o).Limit = 4))]) := by
  have hv := idx_ok ht
  refine ACallIs.enter B _ _ Tryd.func78 rfl rfl Tryd.ntmps78 Tryd.results78 rfl fun hreal => ?_
  clear hreal
  refine AWp.seq (AWp.region ?_)
  intro _
  refine AWp.freezeObj 3 rfl rfl ?_
  refine AWp.freezeObj 4 rfl rfl ?_
  repeat' (first
    | refine AWp.quietFirst (.q 0 (.q 1 (.q 2 (.q 3 (.q 4 (.q 5 (.q 6 (.q 7 (.q 8 (.c 9 true (.q 10 .fin) .no)))))))))) [0, 1, 2, 3, 4, 5, 6, 7, 8, 10] [5] mixed (by kernel_rfl) ?_
    | refine AWp.seq ?_ | refine AWp.block ?_ | refine AWp.skip ?_ | refine AWp.exit ?_
    | refine AWp.region ?_ | refine AWp.draw mixed (by kernel_rfl) ?_
    | refine AWp.cond (And.intro (fun h => ?_) (fun h => ?_))
    | refine AWp.ret ⟨Or.inl rfl, rfl, ?_⟩
    | exact trivial | refine And.intro ?_ ?_ | intro _)
  all_goals first | assumption | refine tup_ab ?_ ?_ ?_ | skip
  all_goals ((try simp only [bif_if, tgt, cls, Ins.opd] at *); grind)
def fixN (f : Fun) (x : Ins) (o : Opd) : Int := if (tgt x o).Limit = 4 then 100 * cls f (tgt x o).Value + (tgt x o).N else -1
set_option maxHeartbeats 600000 in
theorem c_fixedReg (f : Fun) (x : Ins) (o : Opd) (hf : VOk f) (h5 : o.Limit = 5 → 0 ≤ o.N ∧ o.N < x.Operands.length) (ht : valB f (tgt x o).Value = true) (hn : (tgt x o).Limit = 4 → 0 ≤ (tgt x o).N ∧ (tgt x o).N < 10) :
    ACallIs B.P 86 [f.av, x.av, o.av] (.i64 (fixN f x o)) := by
  have hv := cls_ok hf ht
  have hw1 : IntKind.i64.wrap (100 * cls f (tgt x o).Value) = 100 * cls f (tgt x o).Value := wrap_in (by omega) (by omega)
  have hw2 : (tgt x o).Limit = 4 → IntKind.i64.wrap (100 * cls f (tgt x o).Value + (tgt x o).N) = 100 * cls f (tgt x o).Value + (tgt x o).N := fun h => wrap_in (by have := hn h; omega) (by have := hn h; omega)
  refine ACallIs.enter B _ _ Tryd.func86 rfl rfl Tryd.ntmps86 Tryd.results86 rfl fun hreal => ?_
  clear hreal
  refine AWp.seq (AWp.region ?_)
  intro _
  refine AWp.freezeObj 3 rfl rfl ?_
  refine AWp.freezeObj 4 rfl rfl ?_
  repeat' (first
    | refine AWp.seq ?_ | refine AWp.block ?_ | refine AWp.skip ?_ | refine AWp.exit ?_
    | refine AWp.region ?_ | refine AWp.draw mixed (by kernel_rfl) ?_
    | refine AWp.cond (And.intro (fun h => ?_) (fun h => ?_))
    | refine AWp.ret ⟨Or.inl rfl, rfl, ?_⟩
    | refine CallX.pure (c_classOf f (x.opd o.N).Value (by grind [tgt])) rfl rfl rfl ?_ | refine CallK.intro (fun _ => c_classOf f (x.opd o.N).Value (by grind [tgt])) ?_
    | refine CallX.pure (c_classOf f o.Value (by grind [tgt])) rfl rfl rfl ?_ | refine CallK.intro (fun _ => c_classOf f o.Value (by grind [tgt])) ?_
    | exact trivial | refine And.intro ?_ ?_ | intro _)
  all_goals first | assumption | ((try simp only [tupOf, bif_if, fixN, tgt, cls, Ins.opd] at *); grind)
end Go.Proofs.YtgkdmdfjfepcdaaDoor

/- Contracts of slices.Index and Contains at api.Reg, and of the document's spoilt, and of shape.spoils and the document's spoilsFault. -/
set_option maxRecDepth 2000
namespace Go.Proofs.YtgkdmdfjfepcdaaDoor
open Go Go.Abs Go.RowKit

/-- Is there one? -/
def anyB (p : Nat → Bool) (n : Nat) : Bool := (List.range n).any p
theorem anyB_hit {p : Nat → Bool} {n k : Nat} (hk : k < n) (h : p k = true) : anyB p n = true := by
  unfold anyB; exact List.any_eq_true.2 ⟨k, List.mem_range.2 hk, h⟩
theorem anyB_none {p : Nat → Bool} {n : Nat} (h : ∀ j, j < n → p j = false) : anyB p n = false := by
  unfold anyB; rw [List.any_eq_false]; intro k hk; rw [h k (List.mem_range.1 hk)]; decide
theorem anyB_all {p : Nat → Bool} {n : Nat} (h : anyB p n = false) : ∀ j, j < n → p j = false := by
  intro j hj; unfold anyB at h; rw [List.any_eq_false] at h; exact Bool.eq_false_iff.2 (h j (List.mem_range.2 hj))
theorem anyB_congr {p q : Nat → Bool} {n : Nat} (h : ∀ j, j < n → p j = q j) : anyB p n = anyB q n := by
  by_cases e : anyB q n = true
  · rw [e]; unfold anyB at e; obtain ⟨k, hk, hq⟩ := List.any_eq_true.1 e
    have := List.mem_range.1 hk
    exact anyB_hit this (by rw [h k this]; exact hq)
  · rw [Bool.eq_false_iff.2 e]; exact anyB_none fun j hj => by rw [h j hj]; exact anyB_all (Bool.eq_false_iff.2 e) j hj
/-- The place of the first, or -1. -/
def idxF (p : Nat → Bool) (n : Nat) : Int := firstF (fun j => bif p j then (j : Int) + 1 else 0) n - 1
theorem idxF_hit {p : Nat → Bool} {n k : Nat} (hk : k < n) (hb : ∀ j, j < k → p j = false) (h : p k = true) : idxF p n = k := by
  unfold idxF; rw [firstF_hit hk (fun j hj => by simp [hb j hj]) (by simp [h]; omega)]; simp [h]
theorem idxF_none {p : Nat → Bool} {n : Nat} (h : ∀ j, j < n → p j = false) : idxF p n = -1 := by
  unfold idxF; rw [firstF_none fun j hj => by simp [h j hj]]; rfl
theorem idxF_any (p : Nat → Bool) (n : Nat) : decide (0 ≤ idxF p n) = anyB p n := by
  by_cases hz : ∀ j, j < n → p j = false
  · rw [idxF_none hz, anyB_none hz]; rfl
  · have : ∃ j, j < n ∧ p j = true := by
      apply Classical.byContradiction; intro hne; exact hz fun j hj => Bool.eq_false_iff.2 fun h0 => hne ⟨j, hj, h0⟩
    obtain ⟨k, ⟨h1, h2⟩, h3⟩ := least this
    rw [idxF_hit h1 (fun j hj => Bool.eq_false_iff.2 fun h0 => absurd (h3 j ⟨by omega, h0⟩) (by omega)) h2, anyB_hit h1 h2]
    simp

theorem upto {p : Nat → Prop} {k : Nat} (h : ∀ j, j < k → p j) (hk : p k) : ∀ j, j < k + 1 → p j := by
  intro j hj
  by_cases e : j < k
  · exact h j e
  · obtain rfl : j = k := by omega
    exact hk
theorem tupI {a b : Int} (h : a = b) : tupOf [AV.val (.int .i64 a)] = AV.val (.int .i64 b) := by rw [h]; rfl
theorem tupB {a b : Bool} (h : a = b) : tupOf [AV.val (.bool a)] = AV.val (.bool b) := by rw [h]; rfl

def isR (l : List Rg) (r : Rg) (j : Nat) : Bool := (l.getD j default).Class == r.Class && (l.getD j default).N == r.N
def oneR (l : List Rg) (r : Rg) : Bool := anyB (isR l r) l.length
set_option maxHeartbeats 1000000 in
theorem c_IndexReg (l : List Rg) (r : Rg) (hlen : l.length ≤ maxLen) : ACallIs B.P 89 [roL 2 Rg.cells l, r.av] (.i64 (idxF (isR l r) l.length)) := by
  refine ACallIs.enter B _ _ Tryd.func89 rfl rfl Tryd.ntmps89 Tryd.results89 rfl fun hreal => ?_
  clear hreal
  refine AWp.seq (AWp.region ?_)
  intro _
  refine AWp.seq (AWp.seq (AWp.region ?_))
  intro _
  refine AWp.block (AWp.loop (fun k : Nat => ⟨[(0, roL 2 Rg.cells l), (3, .obj 3 0), (7, .i64 l.length), (8, .i64 k)], [(3, .cells r.cells)]⟩) (fun k => k ≤ l.length ∧ ∀ j, j < k → isR l r j = false) (fun k => l.length - k) 0 ⟨Nat.zero_le _, fun j hj => absurd hj (by omega)⟩ ?_ ?_)
  · repeat' (first | exact rfl | exact trivial | refine And.intro ?_ ?_)
  intro k hk
  obtain ⟨hk, hg⟩ := hk
  repeat' (first
    | refine AWp.seq ?_ | refine AWp.block ?_ | refine AWp.skip ?_ | refine AWp.exit ?_
    | refine AWp.region ?_ | refine AWp.draw mixed (by kernel_rfl) ?_
    | refine AWp.cond (And.intro (fun h => ?_) (fun h => ?_))
    | refine AWp.ret ⟨Or.inl rfl, rfl, ?_⟩
    | exact trivial | refine And.intro ?_ ?_ | intro _)
  all_goals first | assumption | exact tupI (idxF_none (n := l.length) (fun j hj => hg j (by grind))).symm | refine tupI (idxF_hit (k := k) (n := l.length) (by grind) hg ?_).symm | refine round_end (k + 1) ⟨by grind, upto hg ?_⟩ (by repeat' (first | exact rfl | exact trivial | exact congrArg (fun z => some (AV.i64 z)) (wrap_succ (show k < l.length from by grind) hlen) | refine And.intro ?_ ?_)) (by grind) | skip
  all_goals first | assumption | ((try clear hg); (try simp only [Int.toNat_natCast, Bool.cond_true_left, Bool.cond_false_right, Bool.or_eq_true, Bool.and_eq_true, Bool.or_eq_false_iff, Bool.and_eq_false_iff, beq_eq_false_iff_ne, Bool.not_eq_true', Bool.not_eq_false', decide_eq_true_eq, decide_eq_false_iff_not, beq_iff_eq, isR] at *); (try simp only [bif_if] at *); ((skip) <;> grind))
theorem c_ContainsReg (l : List Rg) (r : Rg) (hlen : l.length ≤ maxLen) : ACallIs B.P 79 [roL 2 Rg.cells l, r.av] (.bool (oneR l r)) := by
  refine ACallIs.enter B _ _ Tryd.func79 rfl rfl Tryd.ntmps79 Tryd.results79 rfl fun hreal => ?_
  clear hreal
  repeat' (first
    | refine AWp.seq ?_ | refine AWp.block ?_ | refine AWp.skip ?_ | refine AWp.exit ?_
    | refine AWp.region ?_ | refine AWp.draw mixed (by kernel_rfl) ?_
    | refine AWp.cond (And.intro (fun h => ?_) (fun h => ?_))
    | refine AWp.ret ⟨Or.inl rfl, rfl, ?_⟩
    | refine CallX.pure (c_IndexReg l r hlen) rfl rfl rfl ?_ | refine CallK.intro (fun _ => c_IndexReg l r hlen) ?_
    | exact trivial | refine And.intro ?_ ?_ | intro _)
  exact tupB (idxF_any _ _)
set_option maxHeartbeats 1000000 in
theorem c_spoilt (x : Ins) (r : Rg) (hlen : x.Spoils.length ≤ maxLen) : ACallIs B.P 87 [x.av, .i64 r.Class, .i64 r.N] (.bool (oneR x.Spoils r)) := by
  unfold oneR
  refine ACallIs.enter B _ _ Tryd.func87 rfl rfl Tryd.ntmps87 Tryd.results87 rfl fun hreal => ?_
  clear hreal
  refine AWp.seq (AWp.region ?_)
  intro _
  refine AWp.seq (AWp.seq (AWp.region ?_))
  intro _
  refine AWp.block (AWp.loop (fun k : Nat => ⟨[(1, .i64 r.Class), (2, .i64 r.N), (3, .obj 3 0), (7, .i64 k)], [(3, .cells x.cells)]⟩) (fun k => k ≤ x.Spoils.length ∧ ∀ j, j < k → isR x.Spoils r j = false) (fun k => x.Spoils.length - k) 0 ⟨Nat.zero_le _, fun j hj => absurd hj (by omega)⟩ ?_ ?_)
  · repeat' (first | exact rfl | exact trivial | refine And.intro ?_ ?_)
  intro k hk
  obtain ⟨hk, hg⟩ := hk
  repeat' (first
    | refine AWp.seq ?_ | refine AWp.block ?_ | refine AWp.skip ?_ | refine AWp.exit ?_
    | refine AWp.region ?_ | refine AWp.draw mixed (by kernel_rfl) ?_
    | refine AWp.cond (And.intro (fun h => ?_) (fun h => ?_))
    | refine AWp.ret ⟨Or.inl rfl, rfl, ?_⟩
    | exact trivial | refine And.intro ?_ ?_ | intro _)
  all_goals first | assumption | exact tupB (anyB_none (n := x.Spoils.length) (fun j hj => hg j (by grind))).symm | refine tupB (anyB_hit (k := k) (n := x.Spoils.length) (by grind) ?_).symm | refine round_end (k + 1) ⟨by grind, upto hg ?_⟩ (by repeat' (first | exact rfl | exact trivial | exact congrArg (fun z => some (AV.i64 z)) (wrap_succ (show k < x.Spoils.length from by grind) hlen) | refine And.intro ?_ ?_)) (by grind) | skip
  all_goals first | assumption | ((try clear hg); (try simp only [Int.toNat_natCast, Bool.cond_true_left, Bool.cond_false_right, Bool.or_eq_true, Bool.and_eq_true, Bool.or_eq_false_iff, Bool.and_eq_false_iff, beq_eq_false_iff_ne, Bool.not_eq_true', Bool.not_eq_false', decide_eq_true_eq, decide_eq_false_iff_not, beq_iff_eq, isR] at *); (try simp only [bif_if] at *); ((skip) <;> grind))

def spoG (m : Mch) (l : List Rg) (j : Nat) : Int :=
  if (l.getD j default).Class < 0 ∨ 2 ≤ (l.getD j default).Class ∨ (l.getD j default).N < 0 ∨ m.reg (l.getD j default).Class ≤ (l.getD j default).N then 2
  else if 0 < j ∧ ((l.getD j default).Class < (l.getD (j - 1) default).Class ∨ ((l.getD (j - 1) default).Class = (l.getD j default).Class ∧ (l.getD j default).N ≤ (l.getD (j - 1) default).N)) then 4 else 0
theorem spoG_cases (m : Mch) (l : List Rg) (j : Nat) :
    (((l.getD j default).Class < 0 ∨ 2 ≤ (l.getD j default).Class ∨ (l.getD j default).N < 0 ∨ m.reg (l.getD j default).Class ≤ (l.getD j default).N) ∧ spoG m l j = 2)
    ∨ (¬ ((l.getD j default).Class < 0 ∨ 2 ≤ (l.getD j default).Class ∨ (l.getD j default).N < 0 ∨ m.reg (l.getD j default).Class ≤ (l.getD j default).N) ∧ (0 < j ∧ ((l.getD j default).Class < (l.getD (j - 1) default).Class ∨ ((l.getD (j - 1) default).Class = (l.getD j default).Class ∧ (l.getD j default).N ≤ (l.getD (j - 1) default).N))) ∧ spoG m l j = 4)
    ∨ (¬ ((l.getD j default).Class < 0 ∨ 2 ≤ (l.getD j default).Class ∨ (l.getD j default).N < 0 ∨ m.reg (l.getD j default).Class ≤ (l.getD j default).N) ∧ ¬ (0 < j ∧ ((l.getD j default).Class < (l.getD (j - 1) default).Class ∨ ((l.getD (j - 1) default).Class = (l.getD j default).Class ∧ (l.getD j default).N ≤ (l.getD (j - 1) default).N))) ∧ spoG m l j = 0) := by
  by_cases h1 : ((l.getD j default).Class < 0 ∨ 2 ≤ (l.getD j default).Class ∨ (l.getD j default).N < 0 ∨ m.reg (l.getD j default).Class ≤ (l.getD j default).N)
  · exact .inl ⟨h1, if_pos h1⟩
  · by_cases h2 : (0 < j ∧ ((l.getD j default).Class < (l.getD (j - 1) default).Class ∨ ((l.getD (j - 1) default).Class = (l.getD j default).Class ∧ (l.getD j default).N ≤ (l.getD (j - 1) default).N)))
    · exact .inr (.inl ⟨h1, h2, by unfold spoG; rw [if_neg h1, if_pos h2]⟩)
    · exact .inr (.inr ⟨h1, h2, by unfold spoG; rw [if_neg h1, if_neg h2]⟩)
set_option maxHeartbeats 4000000 in
theorem c_spoils (m : Mch) (l : List Rg) (hlen : l.length ≤ maxLen) : ACallIs B.P 60 [m.av, roL 2 Rg.cells l] (.i64 (firstF (spoG m l) l.length)) := by
  refine ACallIs.enter B _ _ Tryd.func60 rfl rfl Tryd.ntmps60 Tryd.results60 rfl fun hreal => ?_
  clear hreal
  refine AWp.seq (AWp.region ?_)
  intro _
  refine AWp.freezeObj 2 rfl rfl ?_
  refine AWp.seq (AWp.seq (AWp.region ?_))
  intro _
  refine AWp.block (AWp.loop (fun k : Nat => ⟨[(1, roL 2 Rg.cells l), (2, .ptr m.cells), (7, roL 2 Rg.cells l), (8, .i64 l.length), (9, .i64 k)], []⟩) (fun k => k ≤ l.length ∧ ∀ j, j < k → spoG m l j = 0) (fun k => l.length - k) 0 ⟨Nat.zero_le _, fun j hj => absurd hj (by omega)⟩ ?_ ?_)
  · repeat' (first | exact rfl | exact trivial | refine And.intro ?_ ?_)
  intro k hk
  obtain ⟨hk, hg⟩ := hk
  have hp : 0 < k → IntKind.i64.wrap ((k : Int) - 1) = (k : Int) - 1 ∧ (IntKind.i64.wrap ((k : Int) - 1)).toNat = k - 1 := fun h => by unfold maxLen at hlen; rw [wrap_in (by omega) (by omega)]; omega
  repeat' (first
    | refine AWp.seq ?_ | refine AWp.block ?_ | refine AWp.skip ?_ | refine AWp.exit ?_
    | refine AWp.region ?_ | refine AWp.draw mixed (by kernel_rfl) ?_
    | refine AWp.cond (And.intro (fun h => ?_) (fun h => ?_))
    | refine AWp.ret ⟨Or.inl rfl, rfl, ?_⟩
    | exact trivial | refine And.intro ?_ ?_ | intro _)
  all_goals first | assumption | exact tupI (firstF_none (n := l.length) (fun j hj => hg j (by grind))).symm | refine tupI (Eq.trans ?_ (firstF_hit (k := k) (n := l.length) (by grind) hg ?_).symm) | refine round_end (k + 1) ⟨by grind, upto hg ?_⟩ (by repeat' (first | exact rfl | exact trivial | exact congrArg (fun z => some (AV.i64 z)) (wrap_succ (show k < l.length from by grind) hlen) | refine And.intro ?_ ?_)) (by grind) | skip
  all_goals first | assumption | ((try clear hg); (try simp only [Int.toNat_natCast, Bool.cond_true_left, Bool.cond_false_right, Bool.or_eq_true, Bool.and_eq_true, Bool.or_eq_false_iff, Bool.and_eq_false_iff, beq_eq_false_iff_ne, Bool.not_eq_true', Bool.not_eq_false', decide_eq_true_eq, decide_eq_false_iff_not, beq_iff_eq, Mch.reg] at *); (try simp only [bif_if] at *); (have hG := spoG_cases m l k; simp only [Mch.reg] at hG; rcases Nat.eq_zero_or_pos k with hz | hz <;> first | omega | ((try simp only [(hp hz).2] at *); (try simp only [(hp hz).1] at *); omega)))
end Go.Proofs.YtgkdmdfjfepcdaaDoor

/- Contract of the document's spoilsFault. Condition: the machine may be. -/
set_option maxRecDepth 2000
namespace Go.Proofs.YtgkdmdfjfepcdaaDoor
open Go Go.Abs Go.RowKit

theorem w100 {c : Int} (h : 0 ≤ c ∧ c < 2) : IntKind.i64.wrap (100 * c) = 100 * c := wrap_in (by omega) (by omega)
theorem w100a {c n : Int} (h : 0 ≤ c ∧ c < 2) (hn : 0 ≤ n ∧ n ≤ 10) : IntKind.i64.wrap (100 * c + n) = 100 * c + n := wrap_in (by omega) (by omega)
theorem spoG_ok {m : Mch} (hm : machF m = 0) {l : List Rg} {j : Nat} (h : spoG m l j = 0) : (0 ≤ (l.getD j default).Class ∧ (l.getD j default).Class < 2) ∧ (0 ≤ (l.getD j default).N ∧ (l.getD j default).N < 10) := by
  have := mreg_small hm (l.getD j default).Class
  unfold spoG at h
  split at h
  · cases h
  · omega
set_option maxHeartbeats 4000000 in
theorem c_spoilsFault (m : Mch) (l : List Rg) (hm : machF m = 0) (hlen : l.length ≤ maxLen) : ACallIs B.P 75 [m.av, roL 2 Rg.cells l] (.i64 (firstF (spoG m l) l.length)) := by
  refine ACallIs.enter B _ _ Tryd.func75 rfl rfl Tryd.ntmps75 Tryd.results75 rfl fun hreal => ?_
  clear hreal
  refine AWp.seq (AWp.region ?_)
  intro _
  refine AWp.freezeObj 2 rfl rfl ?_
  refine AWp.seq (AWp.seq (AWp.region ?_))
  intro _
  refine AWp.block (AWp.loop (fun k : Nat => ⟨[(1, roL 2 Rg.cells l), (2, .ptr m.cells), (5, .i64 k)], []⟩) (fun k => k ≤ l.length ∧ ∀ j, j < k → spoG m l j = 0) (fun k => l.length - k) 0 ⟨Nat.zero_le _, fun j hj => absurd hj (by omega)⟩ ?_ ?_)
  · repeat' (first | exact rfl | exact trivial | refine And.intro ?_ ?_)
  intro k hk
  obtain ⟨hk, hg⟩ := hk
  have hp : 0 < k → IntKind.i64.wrap ((k : Int) - 1) = (k : Int) - 1 ∧ (IntKind.i64.wrap ((k : Int) - 1)).toNat = k - 1 := fun h => by unfold maxLen at hlen; rw [wrap_in (by omega) (by omega)]; omega
  have hr := mreg_small hm (l.getD k default).Class
  have hw1 : IntKind.i64.wrap (m.reg (l.getD k default).Class - 1) = m.reg (l.getD k default).Class - 1 := wrap_in (by omega) (by omega)
  have hq : 0 < k → (0 ≤ (l.getD (k - 1) default).Class ∧ (l.getD (k - 1) default).Class < 2) ∧ (0 ≤ (l.getD (k - 1) default).N ∧ (l.getD (k - 1) default).N < 10) := fun h => spoG_ok hm (hg (k - 1) (by omega))
  have hQ : 0 ≤ (l.getD k default).Class ∧ (l.getD k default).Class < 2 → IntKind.i64.wrap (100 * (l.getD k default).Class) = 100 * (l.getD k default).Class := fun h => w100 h
  have hQ2 : (0 ≤ (l.getD k default).Class ∧ (l.getD k default).Class < 2) ∧ (0 ≤ (l.getD k default).N ∧ (l.getD k default).N ≤ 10) → IntKind.i64.wrap (100 * (l.getD k default).Class + (l.getD k default).N) = 100 * (l.getD k default).Class + (l.getD k default).N := fun h => w100a h.1 h.2
  have hR : 0 < k → IntKind.i64.wrap (100 * (l.getD (k - 1) default).Class) = 100 * (l.getD (k - 1) default).Class := fun h => w100 (hq h).1
  have hR2 : 0 < k → IntKind.i64.wrap (100 * (l.getD (k - 1) default).Class + (l.getD (k - 1) default).N) = 100 * (l.getD (k - 1) default).Class + (l.getD (k - 1) default).N := fun h => w100a (hq h).1 (by have := (hq h).2; omega)
  repeat' (first
    | refine AWp.seq ?_ | refine AWp.block ?_ | refine AWp.skip ?_ | refine AWp.exit ?_
    | refine AWp.region ?_ | refine AWp.draw mixed (by kernel_rfl) ?_
    | refine AWp.cond (And.intro (fun h => ?_) (fun h => ?_))
    | refine AWp.ret ⟨Or.inl rfl, rfl, ?_⟩
    | refine CallX.pure (c_In _ _ _) rfl rfl rfl ?_ | refine CallK.intro (fun _ => c_In _ _ _) ?_
    | exact trivial | refine And.intro ?_ ?_ | intro _)
  all_goals first | assumption | exact tupI (firstF_none (n := l.length) (fun j hj => hg j (by grind))).symm | refine tupI (Eq.trans ?_ (firstF_hit (k := k) (n := l.length) (by grind) hg ?_).symm) | refine round_end (k + 1) ⟨by grind, upto hg ?_⟩ (by repeat' (first | exact rfl | exact trivial | exact congrArg (fun z => some (AV.i64 z)) (wrap_succ (show k < l.length from by grind) hlen) | refine And.intro ?_ ?_)) (by grind) | skip
  all_goals first | assumption | ((try clear hg); (try simp only [Int.toNat_natCast, Bool.cond_true_left, Bool.cond_false_right, Bool.or_eq_true, Bool.and_eq_true, Bool.or_eq_false_iff, Bool.and_eq_false_iff, beq_eq_false_iff_ne, Bool.not_eq_true', Bool.not_eq_false', decide_eq_true_eq, decide_eq_false_iff_not, beq_iff_eq, Mch.reg, inB] at *); (try simp only [bif_if] at *); (have hG := spoG_cases m l k; simp only [Mch.reg] at hG; rcases Nat.eq_zero_or_pos k with hz | hz <;> first | omega | ((try simp only [(hp hz).2] at *); (try simp only [(hp hz).1] at *); (try simp only [hR hz, hR2 hz] at *); first | omega | ((try rw [hQ (by omega)] at *); (try rw [hQ2 (by omega)] at *); omega))))
end Go.Proofs.YtgkdmdfjfepcdaaDoor

/- Contracts of shape.clash and the document's clashes. Condition: what was checked of the instruction ahead of them. -/
namespace Go.Proofs.YtgkdmdfjfepcdaaDoor
open Go Go.Abs Go.RowKit

structure OpsAll (f : Fun) (x : Ins) : Prop where
  ok : OpsOk f x
  reu : ∀ j, j < x.Operands.length → (x.Operands.getD j default).Limit = 5 → 0 ≤ (x.Operands.getD j default).N ∧ (x.Operands.getD j default).N < x.Operands.length
  spo : x.Spoils.length ≤ 20
def fixB (x : Ins) (o : Opd) : Bool := decide ((tgt x o).Limit = 4)
def fixR (f : Fun) (x : Ins) (o : Opd) : Rg := ⟨if (tgt x o).Limit = 4 then cls f (tgt x o).Value else 0, if (tgt x o).Limit = 4 then (tgt x o).N else 0⟩
theorem tgt_at {f : Fun} {x : Ins} (h : OpsAll f x) {j : Nat} (hj : j < x.Operands.length) : ∃ i, i < x.Operands.length ∧ tgt x (x.Operands.getD j default) = x.Operands.getD i default := by
  by_cases e : (x.Operands.getD j default).Limit = 5
  · have := h.reu j hj e
    exact ⟨(x.Operands.getD j default).N.toNat, by omega, by unfold tgt; rw [if_pos e]; rfl⟩
  · exact ⟨j, hj, by unfold tgt; rw [if_neg e]⟩
theorem tgt_val {f : Fun} {x : Ins} (h : OpsAll f x) {j : Nat} (hj : j < x.Operands.length) : valB f (tgt x (x.Operands.getD j default)).Value = true := by
  obtain ⟨i, hi, e⟩ := tgt_at h hj
  rw [e]; exact h.ok.val i hi
theorem tgt_n {f : Fun} {x : Ins} (h : OpsAll f x) {j : Nat} (hj : j < x.Operands.length) (h4 : (tgt x (x.Operands.getD j default)).Limit = 4) : 0 ≤ (tgt x (x.Operands.getD j default)).N ∧ (tgt x (x.Operands.getD j default)).N < 10 := by
  obtain ⟨i, hi, e⟩ := tgt_at h hj
  rw [e] at h4 ⊢; exact h.ok.n i hi h4
theorem c_fx (f : Fun) (x : Ins) (h : OpsAll f x) (j : Nat) (hj : j < x.Operands.length) :
    ACallIs B.P 78 [f.av, x.av, (x.Operands.getD j default).av] (.tup [(fixR f x (x.Operands.getD j default)).av, .bool (fixB x (x.Operands.getD j default))]) :=
  c_fixed f x _ (h.reu j hj) (tgt_val h hj)
theorem c_fxR (f : Fun) (x : Ins) (hf : VOk f) (h : OpsAll f x) (j : Nat) (hj : j < x.Operands.length) :
    ACallIs B.P 86 [f.av, x.av, (x.Operands.getD j default).av] (.i64 (fixN f x (x.Operands.getD j default))) :=
  c_fixedReg f x _ hf (h.reu j hj) (tgt_val h hj) (tgt_n h hj)

/-- Do two operands ask for one place? -/
def claG (f : Fun) (x : Ins) (i k : Nat) : Bool :=
  ((x.Operands.getD i default).Limit == 5 && (x.Operands.getD k default).Limit == 5 && (x.Operands.getD i default).N == (x.Operands.getD k default).N)
  || (fixB x (x.Operands.getD i default) && fixB x (x.Operands.getD k default) && ((fixR f x (x.Operands.getD k default)).Class == (fixR f x (x.Operands.getD i default)).Class && (fixR f x (x.Operands.getD k default)).N == (fixR f x (x.Operands.getD i default)).N) && apartB (x.Operands.getD i default) (x.Operands.getD k default)
    && !(((x.Operands.getD i default).Limit == 5 && (x.Operands.getD i default).N == (k : Int)) || ((x.Operands.getD k default).Limit == 5 && (x.Operands.getD k default).N == (i : Int))))
def claH (f : Fun) (x : Ins) (i : Nat) : Bool :=
  (fixB x (x.Operands.getD i default) && ((x.Operands.getD i default).Late || (x.Operands.getD i default).Kind == 2) && oneR x.Spoils (fixR f x (x.Operands.getD i default))) || anyB (claG f x i) i
def claF (f : Fun) (x : Ins) : Bool := anyB (claH f x) x.Operands.length
theorem claH_in {f : Fun} {x : Ins} {i k : Nat} (hk : k < i) (h : claG f x i k = true) : claH f x i = true := by
  unfold claH; rw [anyB_hit hk h, Bool.or_true]
theorem ro_cut (k : Nat) (f : Nat → List AV) : some (AV.ro 5 ((k : Int) - 0).toNat (fun i => f ((0 : Int).toNat + i))) = some (AV.ro 5 k f) := by
  rw [show ((k : Int) - 0).toNat = k by omega]
  exact congrArg (fun g => some (AV.ro 5 k g)) (funext fun i => congrArg f (Nat.zero_add i))
set_option maxHeartbeats 1000000 in
theorem c_clash (f : Fun) (x : Ins) (hx : OpsAll f x) : ACallIs B.P 61 [f.av, x.av] (.bool (claF f x)) := by
  have hl := hx.ok.len
  have hlen : x.Operands.length ≤ maxLen := by unfold maxLen; omega
  have hs : x.Spoils.length ≤ maxLen := by have := hx.spo; unfold maxLen; omega
  refine ACallIs.enter B _ _ Tryd.func61 rfl rfl Tryd.ntmps61 Tryd.results61 rfl fun hreal => ?_
  clear hreal
  refine AWp.seq (AWp.region ?_)
  intro _
  refine AWp.freezeObj 2 rfl rfl ?_
  refine AWp.freezeObj 3 rfl rfl ?_
  refine AWp.seq (AWp.seq (AWp.region ?_))
  intro _
  refine AWp.block (AWp.loop (fun k : Nat => ⟨[(2, .ptr f.cells), (3, .ptr x.cells), (15, roL 5 Opd.cells x.Operands), (16, .i64 x.Operands.length), (17, .i64 k)], []⟩) (fun k => k ≤ x.Operands.length ∧ ∀ j, j < k → claH f x j = false) (fun k => x.Operands.length - k) 0 ⟨Nat.zero_le _, fun j hj => absurd hj (by omega)⟩ ?_ ?_)
  · repeat' (first | exact rfl | exact trivial | refine And.intro ?_ ?_)
  intro k hk
  obtain ⟨hk, hg⟩ := hk
  refine AWp.seq (AWp.region ?_)
  intro _
  refine AWp.seq (AWp.cond (And.intro (fun h => ?_) (fun h => ?_)))
  · refine AWp.skip ?_
    have hk' : k < x.Operands.length := by have := of_decide_eq_true h; omega
    refine AWp.seq (AWp.block (AWp.seq (AWp.region ?_)))
    refine And.intro (fun _ => And.intro (Int.natCast_nonneg _) (Int.ofNat_lt.2 hk')) ?_
    intro _
    refine AWp.freezeObj 6 rfl rfl ?_
    refine AWp.seq (AWp.region ?_)
    refine CallX.pure (c_fx f x hx k hk') rfl rfl rfl ?_
    intro _
    refine AWp.freezeObj 7 rfl rfl ?_
    generalize hR : fixR f x (x.Operands.getD k default) = R
    generalize hB : fixB x (x.Operands.getD k default) = Bk
    repeat' (first
      | refine AWp.seq ?_ | refine AWp.block ?_ | refine AWp.skip ?_ | refine AWp.exit ?_
      | refine AWp.region ?_ | refine AWp.draw mixed (by kernel_rfl) ?_
      | refine AWp.cond (And.intro (fun h => ?_) (fun h => ?_))
      | refine AWp.ret ⟨Or.inl rfl, rfl, ?_⟩
      | refine CallX.pure (c_ContainsReg x.Spoils R hs) rfl rfl rfl ?_ | refine CallK.intro (fun _ => c_ContainsReg x.Spoils R hs) ?_
      | exact trivial | refine And.intro ?_ ?_ | intro _)
    all_goals first | assumption | exact Int.le_refl _ | exact Int.natCast_nonneg _ | exact Int.ofNat_le.2 hk | (refine tupB (anyB_hit (k := k) hk' ?_).symm; simp only [bif_if, Int.toNat_natCast] at *; unfold claH; rw [hB, hR]; grind) | refine AWp.loop (fun j : Nat => ⟨[(2, .ptr f.cells), (3, .ptr x.cells), (5, .i64 k), (6, .ptr (x.Operands.getD k default).cells), (7, .ptr R.cells), (8, .bool Bk), (15, roL 5 Opd.cells x.Operands), (16, .i64 x.Operands.length), (17, .i64 k), (60, .ro 5 k (fun i => (x.Operands.getD i default).cells)), (61, .i64 k), (62, .i64 j)], []⟩) (fun j => j ≤ k ∧ ∀ a, a < j → claG f x k a = false) (fun j => k - j) 0 ⟨Nat.zero_le _, fun j hj => absurd hj (by omega)⟩ ?_ ?_ | ((try simp only [bif_if, Int.toNat_natCast] at *); grind)
    · repeat' (first | exact rfl | exact trivial | refine And.intro ?_ ?_)
      exact ro_cut k (fun i => (x.Operands.getD i default).cells)
    intro j hj
    obtain ⟨hj, hgj⟩ := hj
    have hj0 : j < k → j < x.Operands.length := fun h => by omega
    refine AWp.seq (AWp.region ?_)
    intro _
    refine AWp.seq (AWp.cond (And.intro (fun h => ?_) (fun h => ?_)))
    · refine AWp.skip ?_
      have hj' : j < k := by have := of_decide_eq_true h; omega
      refine AWp.seq (AWp.block (AWp.seq (AWp.region ?_)))
      refine And.intro (fun _ => And.intro (Int.natCast_nonneg _) (Int.ofNat_lt.2 hj')) ?_
      intro _
      refine AWp.freezeObj 10 rfl rfl ?_
      refine AWp.seq (AWp.region ?_)
      refine CallX.pure (c_fx f x hx j (hj0 hj')) rfl rfl rfl ?_
      intro _
      refine AWp.freezeObj 11 rfl rfl ?_
      generalize hR2 : fixR f x (x.Operands.getD j default) = R2
      generalize hB2 : fixB x (x.Operands.getD j default) = B2
      repeat' (first
        | refine AWp.seq ?_ | refine AWp.block ?_ | refine AWp.skip ?_ | refine AWp.exit ?_
        | refine AWp.region ?_ | refine AWp.draw mixed (by kernel_rfl) ?_
        | refine AWp.cond (And.intro (fun h => ?_) (fun h => ?_))
        | refine AWp.ret ⟨Or.inl rfl, rfl, ?_⟩
        | refine CallX.pure (c_Meet (x.Operands.getD k default) (x.Operands.getD j default)) rfl rfl rfl ?_ | refine CallK.intro (fun _ => c_Meet (x.Operands.getD k default) (x.Operands.getD j default)) ?_
        | exact trivial | refine And.intro ?_ ?_ | intro _)
      all_goals first | assumption | (refine tupB (anyB_hit (k := k) hk' (claH_in hj' ?_)).symm) | refine round_end (j + 1) ⟨by omega, upto hgj ?_⟩ (by repeat' (first | exact rfl | exact trivial | exact congrArg (fun z => some (AV.i64 z)) (wrap_succ hj' (show k ≤ maxLen from by unfold maxLen; omega)) | refine And.intro ?_ ?_)) (by omega) | skip
      all_goals first | assumption | (clear hg hgj; unfold claG; rw [hB, hB2, hR, hR2]; (try simp only [bif_if, Int.toNat_natCast] at *); grind) | ((try simp only [bif_if, Int.toNat_natCast] at *); grind)
    have hj3 : ¬ (j : Int) < k := of_decide_eq_false h
    obtain rfl : j = k := by omega
    refine AWp.exit ?_
    refine AWp.region ?_
    intro _
    refine round_end (j + 1) ⟨by omega, upto hg ?_⟩ (by repeat' (first | exact rfl | exact trivial | exact congrArg (fun z => some (AV.i64 z)) (wrap_succ hk' hlen) | refine And.intro ?_ ?_)) (by omega)
    unfold claH
    rw [anyB_none hgj, hB, hR]
    clear hg hgj
    (try simp only [bif_if, Int.toNat_natCast] at *)
    grind
  have hk3 : ¬ (k : Int) < x.Operands.length := of_decide_eq_false h
  refine AWp.exit ?_
  refine AWp.seq (AWp.region ?_)
  intro _
  refine AWp.ret ⟨Or.inl rfl, rfl, ?_⟩
  intro _
  exact tupB (anyB_none (fun j hj => hg j (by omega))).symm
end Go.Proofs.YtgkdmdfjfepcdaaDoor

/- Contract of the document's clashes. Condition: what was checked of the instruction ahead of it. -/
namespace Go.Proofs.YtgkdmdfjfepcdaaDoor
open Go Go.Abs Go.RowKit

theorem fixN_spec {f : Fun} {x : Ins} (hf : VOk f) (h : OpsAll f x) {j : Nat} (hj : j < x.Operands.length) :
    (fixB x (x.Operands.getD j default) = true ∧ fixN f x (x.Operands.getD j default) = 100 * (fixR f x (x.Operands.getD j default)).Class + (fixR f x (x.Operands.getD j default)).N
      ∧ (0 ≤ (fixR f x (x.Operands.getD j default)).Class ∧ (fixR f x (x.Operands.getD j default)).Class < 2) ∧ (0 ≤ (fixR f x (x.Operands.getD j default)).N ∧ (fixR f x (x.Operands.getD j default)).N < 10))
    ∨ (fixB x (x.Operands.getD j default) = false ∧ fixN f x (x.Operands.getD j default) = -1) := by
  by_cases e : (tgt x (x.Operands.getD j default)).Limit = 4
  · refine .inl ⟨decide_eq_true e, ?_, ?_, ?_⟩
    · unfold fixN fixR; rw [if_pos e]; simp only [if_pos e]
    · unfold fixR; simp only [if_pos e]; exact cls_ok hf (tgt_val h hj)
    · unfold fixR; simp only [if_pos e]; exact tgt_n h hj e
  · exact .inr ⟨decide_eq_false e, by unfold fixN; rw [if_neg e]⟩
theorem q100 {c n : Int} (h : 0 ≤ c ∧ c < 2) (hn : 0 ≤ n ∧ n < 10) : (100 * c + n).tdiv 100 = c ∧ (100 * c + n).tmod 100 = n := by
  rw [Int.tdiv_eq_ediv_of_nonneg (by omega), Int.tmod_eq_emod_of_nonneg (by omega)]; omega
set_option maxHeartbeats 1000000 in
theorem c_clashes (f : Fun) (x : Ins) (hf : VOk f) (hx : OpsAll f x) : ACallIs B.P 76 [f.av, x.av] (.bool (claF f x)) := by
  have hl := hx.ok.len
  have hlen : x.Operands.length ≤ maxLen := by unfold maxLen; omega
  have hs : x.Spoils.length ≤ maxLen := by have := hx.spo; unfold maxLen; omega
  refine ACallIs.enter B _ _ Tryd.func76 rfl rfl Tryd.ntmps76 Tryd.results76 rfl fun hreal => ?_
  clear hreal
  refine AWp.seq (AWp.region ?_)
  intro _
  refine AWp.freezeObj 2 rfl rfl ?_
  refine AWp.freezeObj 3 rfl rfl ?_
  refine AWp.seq (AWp.seq (AWp.region ?_))
  intro _
  refine AWp.block (AWp.loop (fun k : Nat => ⟨[(2, .ptr f.cells), (3, .ptr x.cells), (5, .i64 k)], []⟩) (fun k => k ≤ x.Operands.length ∧ ∀ j, j < k → claH f x j = false) (fun k => x.Operands.length - k) 0 ⟨Nat.zero_le _, fun j hj => absurd hj (by omega)⟩ ?_ ?_)
  · repeat' (first | exact rfl | exact trivial | refine And.intro ?_ ?_)
  intro k hk
  obtain ⟨hk, hg⟩ := hk
  refine AWp.seq (AWp.seq (AWp.region ?_))
  intro _
  refine AWp.cond (And.intro (fun h => ?_) (fun h => ?_))
  · refine AWp.skip ?_
    have hk' : k < x.Operands.length := by have := of_decide_eq_true h; omega
    refine AWp.seq (AWp.block (AWp.seq (AWp.region ?_)))
    refine And.intro (fun _ => And.intro (Int.natCast_nonneg _) (Int.ofNat_lt.2 hk')) ?_
    intro _
    refine AWp.freezeObj 6 rfl rfl ?_
    refine AWp.seq (AWp.region ?_)
    refine CallX.pure (c_fxR f x hf hx k hk') rfl rfl rfl ?_
    intro _
    have hsp := fixN_spec hf hx hk'
    generalize hR : fixR f x (x.Operands.getD k default) = R at *
    generalize hB : fixB x (x.Operands.getD k default) = Bk at *
    generalize hN : fixN f x (x.Operands.getD k default) = rr at *
    have hq : Bk = true → (⟨IntKind.i64.wrap (rr.tdiv 100), rr.tmod 100⟩ : Rg) = R := fun hb => by
      rcases hsp with ⟨_, h1, h2, h3⟩ | ⟨h1, _⟩
      · rw [h1]; obtain ⟨q1, q2⟩ := q100 h2 h3; rw [q1, q2, wrap_in (by omega) (by omega)]
      · rw [hb] at h1; cases h1
    have hb0 : Bk = decide (rr ≥ 0) := by
      rcases hsp with ⟨h0, h1, h2, h3⟩ | ⟨h0, h1⟩
      · rw [h0]; exact (decide_eq_true (by omega)).symm
      · rw [h0]; exact (decide_eq_false (by omega)).symm
    repeat' (first
      | refine AWp.seq ?_ | refine AWp.block ?_ | refine AWp.skip ?_ | refine AWp.exit ?_
      | refine AWp.region ?_ | refine AWp.draw mixed (by kernel_rfl) ?_
      | refine AWp.cond (And.intro (fun h => ?_) (fun h => ?_))
      | refine AWp.ret ⟨Or.inl rfl, rfl, ?_⟩
      | refine CallX.pure (c_spoilt x ⟨IntKind.i64.wrap (rr.tdiv 100), rr.tmod 100⟩ hs) rfl rfl rfl ?_ | refine CallK.intro (fun _ => c_spoilt x ⟨IntKind.i64.wrap (rr.tdiv 100), rr.tmod 100⟩ hs) ?_
      | exact trivial | refine And.intro ?_ ?_ | intro _)
    all_goals first | assumption | (refine tupB (anyB_hit (k := k) hk' ?_).symm; (try simp only [bif_if, Int.toNat_natCast] at *); unfold claH; rw [hB, hR]; clear hg; grind) | refine AWp.loop (fun j : Nat => ⟨[(2, .ptr f.cells), (3, .ptr x.cells), (5, .i64 k), (6, .ptr (x.Operands.getD k default).cells), (7, .i64 rr), (8, .i64 j)], []⟩) (fun j => j ≤ k ∧ ∀ a, a < j → claG f x k a = false) (fun j => k - j) 0 ⟨Nat.zero_le _, fun j hj => absurd hj (by omega)⟩ ?_ ?_ | ((try simp only [bif_if, Int.toNat_natCast] at *); grind)
    · repeat' (first | exact rfl | exact trivial | refine And.intro ?_ ?_)
    intro j hj
    obtain ⟨hj, hgj⟩ := hj
    have hj0 : j < k → j < x.Operands.length := fun h => by omega
    refine AWp.seq (AWp.seq (AWp.region ?_))
    intro _
    refine AWp.cond (And.intro (fun h => ?_) (fun h => ?_))
    · refine AWp.skip ?_
      have hj' : j < k := by have := of_decide_eq_true h; omega
      refine AWp.seq (AWp.block (AWp.seq (AWp.region ?_)))
      refine And.intro (fun _ => And.intro (Int.natCast_nonneg _) (Int.ofNat_lt.2 (hj0 hj'))) ?_
      intro _
      refine AWp.freezeObj 9 rfl rfl ?_
      have hsp2 := fixN_spec hf hx (hj0 hj')
      have hfx := c_fxR f x hf hx j (hj0 hj')
      generalize hR2 : fixR f x (x.Operands.getD j default) = R2 at *
      generalize hB2 : fixB x (x.Operands.getD j default) = B2 at *
      generalize hN2 : fixN f x (x.Operands.getD j default) = r2 at *
      have hE : (Bk && B2 && (R2.Class == R.Class && R2.N == R.N)) = (decide (rr ≥ 0) && (rr == r2)) := by
        rw [Bool.eq_iff_iff]
        simp only [Bool.and_eq_true, decide_eq_true_eq, beq_iff_eq]
        rcases hsp with ⟨h1, h2, h3, h4⟩ | ⟨h1, h2⟩ <;> rcases hsp2 with ⟨g1, g2, g3, g4⟩ | ⟨g1, g2⟩ <;> simp only [h1, g1, Bool.false_eq_true, false_and, and_false, true_and, and_true, false_iff] <;> omega
      repeat' (first
        | refine AWp.seq ?_ | refine AWp.block ?_ | refine AWp.skip ?_ | refine AWp.exit ?_
        | refine AWp.region ?_ | refine AWp.draw mixed (by kernel_rfl) ?_
        | refine AWp.cond (And.intro (fun h => ?_) (fun h => ?_))
        | refine AWp.ret ⟨Or.inl rfl, rfl, ?_⟩
        | refine CallX.pure (hfx) rfl rfl rfl ?_ | refine CallK.intro (fun _ => hfx) ?_
        | refine CallX.pure (c_Apart (x.Operands.getD k default) (x.Operands.getD j default)) rfl rfl rfl ?_ | refine CallK.intro (fun _ => c_Apart (x.Operands.getD k default) (x.Operands.getD j default)) ?_
        | exact trivial | refine And.intro ?_ ?_ | intro _)
      all_goals first | assumption | (refine tupB (anyB_hit (k := k) hk' (claH_in hj' ?_)).symm) | refine round_end (j + 1) ⟨by omega, upto hgj ?_⟩ (by repeat' (first | exact rfl | exact trivial | exact congrArg (fun z => some (AV.i64 z)) (wrap_succ hj' (show k ≤ maxLen from by unfold maxLen; omega)) | refine And.intro ?_ ?_)) (by omega) | skip
      all_goals first | assumption | (clear hg hgj hsp hsp2 hq; unfold claG; rw [hB, hB2, hR, hR2]; (try simp only [bif_if, Int.toNat_natCast] at *); grind) | ((try simp only [bif_if, Int.toNat_natCast] at *); grind)
    have hj3 : ¬ (j : Int) < k := of_decide_eq_false h
    obtain rfl : j = k := by omega
    refine AWp.exit ?_
    refine AWp.region ?_
    intro _
    refine round_end (j + 1) ⟨by omega, upto hg ?_⟩ (by repeat' (first | exact rfl | exact trivial | exact congrArg (fun z => some (AV.i64 z)) (wrap_succ hk' hlen) | refine And.intro ?_ ?_)) (by omega)
    unfold claH
    rw [anyB_none hgj, hB, hR]
    clear hg hgj
    (try simp only [bif_if, Int.toNat_natCast] at *)
    grind
  have hk3 : ¬ (k : Int) < x.Operands.length := of_decide_eq_false h
  refine AWp.exit ?_
  refine AWp.seq (AWp.region ?_)
  intro _
  refine AWp.ret ⟨Or.inl rfl, rfl, ?_⟩
  intro _
  exact tupB (anyB_none (fun j hj => hg j (by omega))).symm
end Go.Proofs.YtgkdmdfjfepcdaaDoor

/- Contract of shape.needs. Condition: what was checked of the instruction ahead of it. -/
namespace Go.Proofs.YtgkdmdfjfepcdaaDoor
open Go Go.Abs Go.RowKit

/-- How many? -/
def cntF (p : Nat → Bool) : Nat → Nat
  | 0 => 0
  | n + 1 => cntF p n + (bif p n then 1 else 0)
theorem cntF_le (p : Nat → Bool) : ∀ n, cntF p n ≤ n
  | 0 => Nat.le_refl _
  | n + 1 => by have := cntF_le p n; unfold cntF; cases p n <;> simp only [cond_true, cond_false] <;> omega
theorem cnt_hit {p : Nat → Bool} {k : Nat} (s : Nat) (h : p k = true) (hk : k + s ≤ 1000) : IntKind.i64.wrap (((s + cntF p k : Nat) : Int) + 1) = ((s + cntF p (k + 1) : Nat) : Int) := by
  have := cntF_le p k
  rw [show cntF p (k + 1) = cntF p k + 1 by show cntF p k + (bif p k then 1 else 0) = _; rw [h]; rfl, wrap_in (by omega) (by omega)]; omega
theorem cnt_miss {p : Nat → Bool} {k : Nat} (s : Nat) (h : p k = false) : ((s + cntF p k : Nat) : Int) = ((s + cntF p (k + 1) : Nat) : Int) := by
  rw [show cntF p (k + 1) = cntF p k by show cntF p k + (bif p k then 1 else 0) = _; rw [h]; rfl]
def nee1 (x : Ins) (c : Nat) (j : Nat) : Bool := (x.Spoils.getD j default).Class == (c : Int)
def nee2 (f : Fun) (x : Ins) (c : Nat) (j : Nat) : Bool := cls f (x.Operands.getD j default).Value == (c : Int) && ((x.Operands.getD j default).Limit == 2 || (x.Operands.getD j default).Limit == 4 || (x.Operands.getD j default).Limit == 5)
def nee (f : Fun) (x : Ins) (c : Nat) : Nat := cntF (nee1 x c) x.Spoils.length + cntF (nee2 f x c) x.Operands.length
set_option maxHeartbeats 1000000 in
theorem c_needs (f : Fun) (m : Mch) (x : Ins) (hx : OpsAll f x) (c : Nat) (hc : c < 2) : ACallIs B.P 62 [f.av, m.av, x.av, .i64 c] (.bool (decide ((nee f x c : Int) < m.reg c))) := by
  have hl := hx.ok.len
  have hlen : x.Operands.length ≤ maxLen := by unfold maxLen; omega
  have hs0 := hx.spo
  have hs : x.Spoils.length ≤ maxLen := by unfold maxLen; omega
  refine ACallIs.enter B _ _ Tryd.func62 rfl rfl Tryd.ntmps62 Tryd.results62 rfl fun hreal => ?_
  clear hreal
  refine AWp.seq (AWp.region ?_)
  intro _
  refine AWp.freezeObj 4 rfl rfl ?_
  refine AWp.freezeObj 5 rfl rfl ?_
  refine AWp.freezeObj 6 rfl rfl ?_
  refine AWp.seq (AWp.region ?_)
  intro _
  refine AWp.seq (AWp.seq (AWp.region ?_))
  intro _
  refine AWp.block (AWp.loop (fun k : Nat => ⟨[(3, .i64 c), (4, .ptr f.cells), (5, .ptr m.cells), (6, .ptr x.cells), (9, .i64 ((0 + cntF (nee1 x c) k : Nat) : Int)), (15, roL 2 Rg.cells x.Spoils), (16, .i64 x.Spoils.length), (17, .i64 k)], []⟩) (fun k => k ≤ x.Spoils.length) (fun k => x.Spoils.length - k) 0 (Nat.zero_le _) ?_ ?_)
  · repeat' (first | exact rfl | exact trivial | refine And.intro ?_ ?_)
  intro k hk
  refine AWp.seq (AWp.region ?_)
  intro _
  refine AWp.seq (AWp.cond (And.intro (fun h => ?_) (fun h => ?_)))
  · refine AWp.skip ?_
    have hk' : k < x.Spoils.length := by have := of_decide_eq_true h; omega
    repeat' (first
      | refine AWp.seq ?_ | refine AWp.block ?_ | refine AWp.skip ?_ | refine AWp.exit ?_
      | refine AWp.region ?_ | refine AWp.draw mixed (by kernel_rfl) ?_
      | refine AWp.cond (And.intro (fun h => ?_) (fun h => ?_))
      | refine AWp.ret ⟨Or.inl rfl, rfl, ?_⟩
      | exact trivial | refine And.intro ?_ ?_ | intro _)
    all_goals first | exact Int.natCast_nonneg _ | exact Int.ofNat_lt.2 hk' | refine round_end (k + 1) hk' (by repeat' (first | exact rfl | exact trivial | exact congrArg (fun z => some (AV.i64 z)) (wrap_succ hk' hs) | exact congrArg (fun z => some (AV.i64 z)) (cnt_hit (p := nee1 x c) (k := k) 0 (by assumption) (by omega)) | exact congrArg (fun z => some (AV.i64 z)) (cnt_miss (p := nee1 x c) (k := k) 0 (by assumption)) | refine And.intro ?_ ?_)) (by omega)
  have hk3 : ¬ (k : Int) < x.Spoils.length := of_decide_eq_false h
  obtain rfl : k = x.Spoils.length := by omega
  refine AWp.exit ?_
  refine AWp.seq (AWp.seq (AWp.region ?_))
  intro _
  refine AWp.block (AWp.loop (fun k : Nat => ⟨[(3, .i64 c), (4, .ptr f.cells), (5, .ptr m.cells), (9, .i64 ((cntF (nee1 x c) x.Spoils.length + cntF (nee2 f x c) k : Nat) : Int)), (29, roL 5 Opd.cells x.Operands), (30, .i64 x.Operands.length), (31, .i64 k)], []⟩) (fun k => k ≤ x.Operands.length) (fun k => x.Operands.length - k) 0 (Nat.zero_le _) ?_ ?_)
  · repeat' (first | exact rfl | exact trivial | refine And.intro ?_ ?_)
    exact congrArg (fun z => some (AV.i64 z)) (congrArg Int.ofNat (Nat.zero_add _))
  clear hk hk3 h
  intro k hk
  have hn1 := cntF_le (nee1 x c) x.Spoils.length
  refine AWp.seq (AWp.region ?_)
  intro _
  refine AWp.seq (AWp.cond (And.intro (fun h => ?_) (fun h => ?_)))
  · refine AWp.skip ?_
    have hk' : k < x.Operands.length := by have := of_decide_eq_true h; omega
    have hv := idx_ok (hx.ok.val k hk')
    have hlim := hx.ok.limit k hk'
    repeat' (first
      | refine AWp.seq ?_ | refine AWp.block ?_ | refine AWp.skip ?_ | refine AWp.exit ?_
      | refine AWp.region ?_ | refine AWp.draw mixed (by kernel_rfl) ?_
      | refine AWp.cond (And.intro (fun h => ?_) (fun h => ?_))
      | refine AWp.ret ⟨Or.inl rfl, rfl, ?_⟩
      | exact trivial | refine And.intro ?_ ?_ | intro _)
    all_goals first | assumption | exact Int.natCast_nonneg _ | exact Int.ofNat_lt.2 hk' | exact hv.1 | exact hv.2 | refine round_end (k + 1) hk' (by repeat' (first | exact rfl | exact trivial | exact congrArg (fun z => some (AV.i64 z)) (wrap_succ hk' hlen) | exact congrArg (fun z => some (AV.i64 z)) (cnt_hit (p := nee2 f x c) (k := k) _ (by simp only [nee2, cls, bif_if, Int.toNat_natCast] at *; grind) (by omega)) | exact congrArg (fun z => some (AV.i64 z)) (cnt_miss (p := nee2 f x c) (k := k) _ (by simp only [nee2, cls, bif_if, Int.toNat_natCast] at *; grind)) | refine And.intro ?_ ?_)) (by omega) | ((try simp only [bif_if, Int.toNat_natCast] at *); grind)
  have hk3 : ¬ (k : Int) < x.Operands.length := of_decide_eq_false h
  obtain rfl : k = x.Operands.length := by omega
  refine AWp.exit ?_
  repeat' (first
    | refine AWp.seq ?_ | refine AWp.block ?_ | refine AWp.skip ?_ | refine AWp.exit ?_
    | refine AWp.region ?_ | refine AWp.draw mixed (by kernel_rfl) ?_
    | refine AWp.cond (And.intro (fun h => ?_) (fun h => ?_))
    | refine AWp.ret ⟨Or.inl rfl, rfl, ?_⟩
    | exact trivial | refine And.intro ?_ ?_ | intro _)
  all_goals first | exact Int.natCast_nonneg _ | exact Int.ofNat_lt.2 hc | exact rfl
end Go.Proofs.YtgkdmdfjfepcdaaDoor

/- Contract of shape.instr. Condition: the machine may be, the values' classes, the sizes. -/
namespace Go.Proofs.YtgkdmdfjfepcdaaDoor
open Go Go.Abs Go.RowKit

def opdG (f : Fun) (m : Mch) (x : Ins) (j : Nat) : Int := opdF f m (x.Operands.getD j default)
def reuG (f : Fun) (x : Ins) (j : Nat) : Int := if (x.Operands.getD j default).Limit = 5 then reuF f x (x.Operands.getD j default) else 0
def neeG (f : Fun) (m : Mch) (x : Ins) (c : Nat) : Bool := !decide ((nee f x c : Int) < m.reg c)
def insF (f : Fun) (m : Mch) (x : Ins) : Int :=
  if x.Op < 0 ∨ 255 < x.Op then 2
  else if firstF (opdG f m x) x.Operands.length ≠ 0 then firstF (opdG f m x) x.Operands.length
  else if firstF (reuG f x) x.Operands.length ≠ 0 then firstF (reuG f x) x.Operands.length
  else if firstF (spoG m x.Spoils) x.Spoils.length ≠ 0 then firstF (spoG m x.Spoils) x.Spoils.length
  else if claF f x = true then 12
  else if anyB (neeG f m x) 2 = true then 8 else 0
theorem opdF_ok {f : Fun} {m : Mch} (hm : machF m = 0) {o : Opd} (h : opdF f m o = 0) : valB f o.Value = true ∧ (o.Kind = 1 ∨ o.Kind = 2) ∧ (1 ≤ o.Limit ∧ o.Limit ≤ 5) ∧ (o.Limit = 4 → 0 ≤ o.N ∧ o.N < 10) := by
  have hr := mreg_small hm (cls f o.Value)
  unfold opdF at h
  split at h
  · cases h
  · split at h
    · cases h
    · rename_i h1 h2
      split at h
      · cases h
      · rename_i h3
        refine ⟨by simpa using h2, by omega, by omega, fun h4 => by omega⟩
theorem opsOk_of {f : Fun} {m : Mch} (hm : machF m = 0) {x : Ins} (hl : x.Operands.length ≤ 6) (h : firstF (opdG f m x) x.Operands.length = 0) : OpsOk f x where
  len := hl
  val := fun j hj => (opdF_ok hm (firstF_zero h j hj)).1
  kind := fun j hj => (opdF_ok hm (firstF_zero h j hj)).2.1
  limit := fun j hj => (opdF_ok hm (firstF_zero h j hj)).2.2.1
  n := fun j hj => (opdF_ok hm (firstF_zero h j hj)).2.2.2
theorem opsAll_of {f : Fun} {x : Ins} (hx : OpsOk f x) (hs : x.Spoils.length ≤ 20) (h : firstF (reuG f x) x.Operands.length = 0) : OpsAll f x where
  ok := hx
  spo := hs
  reu := fun j hj h5 => by
    have := firstF_zero h j hj
    unfold reuG at this
    rw [if_pos h5] at this
    unfold reuF at this
    split at this
    · cases this
    · omega
theorem insF_op {f : Fun} {m : Mch} {x : Ins} (h : x.Op < 0 ∨ 255 < x.Op) : insF f m x = 2 := if_pos h
theorem insF_a {f : Fun} {m : Mch} {x : Ins} {v : Int} (h : ¬ (x.Op < 0 ∨ 255 < x.Op)) (ha : firstF (opdG f m x) x.Operands.length = v) (hv : v ≠ 0) : insF f m x = v := by
  unfold insF; rw [if_neg h, ha, if_pos hv]
theorem insF_b {f : Fun} {m : Mch} {x : Ins} {v : Int} (h : ¬ (x.Op < 0 ∨ 255 < x.Op)) (ha : firstF (opdG f m x) x.Operands.length = 0) (hb : firstF (reuG f x) x.Operands.length = v) (hv : v ≠ 0) : insF f m x = v := by
  unfold insF; rw [if_neg h, ha, if_neg (fun h => h rfl), hb, if_pos hv]
theorem insF_s {f : Fun} {m : Mch} {x : Ins} {v : Int} (h : ¬ (x.Op < 0 ∨ 255 < x.Op)) (ha : firstF (opdG f m x) x.Operands.length = 0) (hb : firstF (reuG f x) x.Operands.length = 0) (hc : firstF (spoG m x.Spoils) x.Spoils.length = v) (hv : v ≠ 0) : insF f m x = v := by
  unfold insF; rw [if_neg h, ha, if_neg (fun h => h rfl), hb, if_neg (fun h => h rfl), hc, if_pos hv]
theorem insF_c {f : Fun} {m : Mch} {x : Ins} (h : ¬ (x.Op < 0 ∨ 255 < x.Op)) (ha : firstF (opdG f m x) x.Operands.length = 0) (hb : firstF (reuG f x) x.Operands.length = 0) (hc : firstF (spoG m x.Spoils) x.Spoils.length = 0) (hv : claF f x = true) : insF f m x = 12 := by
  unfold insF; rw [if_neg h, ha, if_neg (fun h => h rfl), hb, if_neg (fun h => h rfl), hc, if_neg (fun h => h rfl), if_pos hv]
theorem insF_n {f : Fun} {m : Mch} {x : Ins} (h : ¬ (x.Op < 0 ∨ 255 < x.Op)) (ha : firstF (opdG f m x) x.Operands.length = 0) (hb : firstF (reuG f x) x.Operands.length = 0) (hc : firstF (spoG m x.Spoils) x.Spoils.length = 0) (hv : claF f x = false) {b : Bool} (hn : anyB (neeG f m x) 2 = b) : insF f m x = if b = true then 8 else 0 := by
  unfold insF; rw [if_neg h, ha, if_neg (fun h => h rfl), hb, if_neg (fun h => h rfl), hc, if_neg (fun h => h rfl), hv, if_neg (by decide), hn]

set_option maxHeartbeats 1000000 in
theorem c_instr (f : Fun) (m : Mch) (x : Ins) (hf : VOk f) (hm : machF m = 0) (hl : x.Operands.length ≤ 6) (hs0 : x.Spoils.length ≤ 20) : ACallIs B.P 37 [f.av, m.av, x.av] (.i64 (insF f m x)) := by
  have hlen : x.Operands.length ≤ maxLen := by unfold maxLen; omega
  have hs : x.Spoils.length ≤ maxLen := by unfold maxLen; omega
  refine ACallIs.enter B _ _ Tryd.func37 rfl rfl Tryd.ntmps37 Tryd.results37 rfl fun hreal => ?_
  clear hreal
  refine AWp.seq (AWp.region ?_)
  intro _
  refine AWp.freezeObj 3 rfl rfl ?_
  refine AWp.freezeObj 4 rfl rfl ?_
  refine AWp.freezeObj 5 rfl rfl ?_
  repeat' (first
    | refine AWp.seq ?_ | refine AWp.block ?_ | refine AWp.skip ?_ | refine AWp.exit ?_
    | refine AWp.region ?_ | refine AWp.draw mixed (by kernel_rfl) ?_
    | refine AWp.cond (And.intro (fun h => ?_) (fun h => ?_))
    | refine AWp.ret ⟨Or.inl rfl, rfl, ?_⟩
    | exact trivial | refine And.intro ?_ ?_ | intro _)
  all_goals first | assumption | exact tupI (insF_op (by (try simp only [bif_if] at *); grind)).symm | refine AWp.loop (fun k : Nat => ⟨[(3, .ptr f.cells), (4, .ptr m.cells), (5, .ptr x.cells), (24, roL 5 Opd.cells x.Operands), (25, .i64 x.Operands.length), (26, .i64 k)], []⟩) (fun k => k ≤ x.Operands.length ∧ ∀ j, j < k → opdG f m x j = 0) (fun k => x.Operands.length - k) 0 ⟨Nat.zero_le _, fun j hj => absurd hj (by omega)⟩ ?_ ?_ | ((try simp only [bif_if] at *); grind)
  · repeat' (first | exact rfl | exact trivial | refine And.intro ?_ ?_)
  have hop : ¬ (x.Op < 0 ∨ 255 < x.Op) := by (try simp only [bif_if] at *); grind
  intro k hk
  obtain ⟨hk, hg⟩ := hk
  refine AWp.seq (AWp.region ?_)
  intro _
  refine AWp.seq (AWp.cond (And.intro (fun h => ?_) (fun h => ?_)))
  · refine AWp.skip ?_
    have hk' : k < x.Operands.length := by have := of_decide_eq_true h; omega
    repeat' (first
      | refine AWp.seq ?_ | refine AWp.block ?_ | refine AWp.skip ?_ | refine AWp.exit ?_
      | refine AWp.region ?_ | refine AWp.draw mixed (by kernel_rfl) ?_
      | refine AWp.cond (And.intro (fun h => ?_) (fun h => ?_))
      | refine AWp.ret ⟨Or.inl rfl, rfl, ?_⟩
      | refine CallX.pure (c_operand f m (x.Operands.getD k default) hf) rfl rfl rfl ?_ | refine CallK.intro (fun _ => c_operand f m (x.Operands.getD k default) hf) ?_
      | exact trivial | refine And.intro ?_ ?_ | intro _)
    all_goals first | assumption | exact Int.natCast_nonneg _ | exact Int.ofNat_lt.2 hk' | (refine tupI (insF_a hop (firstF_hit (k := k) hk' hg ?_) ?_).symm <;> (simp only [opdG]; grind)) | refine round_end (k + 1) ⟨hk', upto hg (by simp only [opdG]; grind)⟩ (by repeat' (first | exact rfl | exact trivial | exact congrArg (fun z => some (AV.i64 z)) (wrap_succ hk' hlen) | refine And.intro ?_ ?_)) (by omega)
  have hk3 : ¬ (k : Int) < x.Operands.length := of_decide_eq_false h
  obtain rfl : k = x.Operands.length := by omega
  have hA : firstF (opdG f m x) x.Operands.length = 0 := firstF_none hg
  have hok := opsOk_of hm hl hA
  clear hg hk h hk3
  refine AWp.exit ?_
  refine AWp.seq (AWp.seq (AWp.region ?_))
  intro _
  refine AWp.block (AWp.loop (fun k : Nat => ⟨[(3, .ptr f.cells), (4, .ptr m.cells), (5, .ptr x.cells), (39, roL 5 Opd.cells x.Operands), (40, .i64 x.Operands.length), (41, .i64 k)], []⟩) (fun k => k ≤ x.Operands.length ∧ ∀ j, j < k → reuG f x j = 0) (fun k => x.Operands.length - k) 0 ⟨Nat.zero_le _, fun j hj => absurd hj (by omega)⟩ ?_ ?_)
  · repeat' (first | exact rfl | exact trivial | refine And.intro ?_ ?_)
  intro k hk
  obtain ⟨hk, hg⟩ := hk
  refine AWp.seq (AWp.region ?_)
  intro _
  refine AWp.seq (AWp.cond (And.intro (fun h => ?_) (fun h => ?_)))
  · refine AWp.skip ?_
    have hk' : k < x.Operands.length := by have := of_decide_eq_true h; omega
    repeat' (first
      | refine AWp.seq ?_ | refine AWp.block ?_ | refine AWp.skip ?_ | refine AWp.exit ?_
      | refine AWp.region ?_ | refine AWp.draw mixed (by kernel_rfl) ?_
      | refine AWp.cond (And.intro (fun h => ?_) (fun h => ?_))
      | refine AWp.ret ⟨Or.inl rfl, rfl, ?_⟩
      | refine CallX.pure (c_reuse f x (x.Operands.getD k default) hok (hok.val k hk')) rfl rfl rfl ?_ | refine CallK.intro (fun _ => c_reuse f x (x.Operands.getD k default) hok (hok.val k hk')) ?_
      | exact trivial | refine And.intro ?_ ?_ | intro _)
    all_goals first | assumption | exact Int.natCast_nonneg _ | exact Int.ofNat_lt.2 hk' | (refine tupI (insF_b hop hA ((firstF_hit (k := k) hk' hg ?_).trans ?_) ?_).symm <;> (simp only [reuG, Int.toNat_natCast] at *; grind)) | refine round_end (k + 1) ⟨hk', upto hg (by simp only [reuG, Int.toNat_natCast] at *; grind)⟩ (by repeat' (first | exact rfl | exact trivial | exact congrArg (fun z => some (AV.i64 z)) (wrap_succ hk' hlen) | refine And.intro ?_ ?_)) (by omega)
  have hk3 : ¬ (k : Int) < x.Operands.length := of_decide_eq_false h
  obtain rfl : k = x.Operands.length := by omega
  have hB : firstF (reuG f x) x.Operands.length = 0 := firstF_none hg
  have hx := opsAll_of hok hs0 hB
  clear hg hk h hk3
  refine AWp.exit ?_
  repeat' (first
    | refine AWp.seq ?_ | refine AWp.block ?_ | refine AWp.skip ?_ | refine AWp.exit ?_
    | refine AWp.region ?_ | refine AWp.draw mixed (by kernel_rfl) ?_
    | refine AWp.cond (And.intro (fun h => ?_) (fun h => ?_))
    | refine AWp.ret ⟨Or.inl rfl, rfl, ?_⟩
    | refine CallX.pure (c_spoils m x.Spoils hs) rfl rfl rfl ?_ | refine CallK.intro (fun _ => c_spoils m x.Spoils hs) ?_
    | refine CallX.pure (c_clash f x hx) rfl rfl rfl ?_ | refine CallK.intro (fun _ => c_clash f x hx) ?_
    | exact trivial | refine And.intro ?_ ?_ | intro _)
  all_goals first | assumption | exact tupI (insF_s hop hA hB rfl (by grind)).symm | exact tupI (insF_c hop hA hB (by grind) (by assumption)).symm | refine AWp.loop (fun k : Nat => ⟨[(3, .ptr f.cells), (4, .ptr m.cells), (5, .ptr x.cells), (66, .i64 k)], []⟩) (fun k => k ≤ 2 ∧ ∀ j, j < k → neeG f m x j = false) (fun k => 2 - k) 0 ⟨Nat.zero_le _, fun j hj => absurd hj (by omega)⟩ ?_ ?_
  · repeat' (first | exact rfl | exact trivial | refine And.intro ?_ ?_)
  have hS : firstF (spoG m x.Spoils) x.Spoils.length = 0 := by grind
  have hC : claF f x = false := by assumption
  intro k hk
  obtain ⟨hk, hg⟩ := hk
  have h2 : 2 ≤ maxLen := by unfold maxLen; omega
  refine AWp.seq (AWp.region ?_)
  intro _
  refine AWp.seq (AWp.cond (And.intro (fun h => ?_) (fun h => ?_)))
  · refine AWp.skip ?_
    have hk' : k < 2 := by have := of_decide_eq_true h; omega
    repeat' (first
      | refine AWp.seq ?_ | refine AWp.block ?_ | refine AWp.skip ?_ | refine AWp.exit ?_
      | refine AWp.region ?_ | refine AWp.draw mixed (by kernel_rfl) ?_
      | refine AWp.cond (And.intro (fun h => ?_) (fun h => ?_))
      | refine AWp.ret ⟨Or.inl rfl, rfl, ?_⟩
      | refine CallX.pure (c_needs f m x hx k hk') rfl rfl rfl ?_ | refine CallK.intro (fun _ => c_needs f m x hx k hk') ?_
      | exact trivial | refine And.intro ?_ ?_ | intro _)
    all_goals first | assumption | (refine tupI (insF_n hop hA hB hS hC (anyB_hit (k := k) hk' ?_)).symm; simp only [neeG]; assumption) | refine round_end (k + 1) ⟨hk', upto hg (by simp only [neeG]; assumption)⟩ (by repeat' (first | exact rfl | exact trivial | exact congrArg (fun z => some (AV.i64 z)) (wrap_succ hk' h2) | refine And.intro ?_ ?_)) (by omega)
  have hk3 : ¬ (k : Int) < 2 := of_decide_eq_false h
  obtain rfl : k = 2 := by omega
  refine AWp.exit ?_
  refine AWp.seq (AWp.region ?_)
  intro _
  refine AWp.ret ⟨Or.inl rfl, rfl, ?_⟩
  intro _
  exact tupI (insF_n hop hA hB hS hC (anyB_none hg)).symm
end Go.Proofs.YtgkdmdfjfepcdaaDoor

/- Contract of the document's instrFault. Condition: the machine may be, the values' classes, the sizes. -/
namespace Go.Proofs.YtgkdmdfjfepcdaaDoor
open Go Go.Abs Go.RowKit

theorem ge_neg {a b : Int} {t : Bool} (h : decide (a ≥ b) = t) : (!decide (a < b)) = t := by
  rw [← h]
  by_cases e : a < b
  · rw [decide_eq_true e, decide_eq_false (by omega)]; rfl
  · rw [decide_eq_false e, decide_eq_true (by omega)]; rfl
set_option maxHeartbeats 1000000 in
theorem c_instrFault (f : Fun) (m : Mch) (x : Ins) (hf : VOk f) (hm : machF m = 0) (hl : x.Operands.length ≤ 6) (hs0 : x.Spoils.length ≤ 20) : ACallIs B.P 52 [f.av, m.av, x.av] (.i64 (insF f m x)) := by
  have hlen : x.Operands.length ≤ maxLen := by unfold maxLen; omega
  have hs : x.Spoils.length ≤ maxLen := by unfold maxLen; omega
  refine ACallIs.enter B _ _ Tryd.func52 rfl rfl Tryd.ntmps52 Tryd.results52 rfl fun hreal => ?_
  clear hreal
  refine AWp.seq (AWp.region ?_)
  intro _
  refine AWp.freezeObj 3 rfl rfl ?_
  refine AWp.freezeObj 4 rfl rfl ?_
  refine AWp.freezeObj 5 rfl rfl ?_
  repeat' (first
    | refine AWp.seq ?_ | refine AWp.block ?_ | refine AWp.skip ?_ | refine AWp.exit ?_
    | refine AWp.region ?_ | refine AWp.draw mixed (by kernel_rfl) ?_
    | refine AWp.cond (And.intro (fun h => ?_) (fun h => ?_))
    | refine AWp.ret ⟨Or.inl rfl, rfl, ?_⟩
    | refine CallX.pure (c_In x.Op 0 255) rfl rfl rfl ?_ | refine CallK.intro (fun _ => c_In x.Op 0 255) ?_
    | exact trivial | refine And.intro ?_ ?_ | intro _)
  all_goals first | assumption | exact tupI (insF_op (by (try simp only [inB] at *); grind)).symm | refine AWp.loop (fun k : Nat => ⟨[(3, .ptr f.cells), (4, .ptr m.cells), (5, .ptr x.cells), (7, .i64 k)], []⟩) (fun k => k ≤ x.Operands.length ∧ ∀ j, j < k → opdG f m x j = 0) (fun k => x.Operands.length - k) 0 ⟨Nat.zero_le _, fun j hj => absurd hj (by omega)⟩ ?_ ?_ | ((try simp only [bif_if] at *); grind)
  · repeat' (first | exact rfl | exact trivial | refine And.intro ?_ ?_)
  have hop : ¬ (x.Op < 0 ∨ 255 < x.Op) := by (try simp only [inB] at *); grind
  intro k hk
  obtain ⟨hk, hg⟩ := hk
  refine AWp.seq (AWp.seq (AWp.region ?_))
  intro _
  refine AWp.cond (And.intro (fun h => ?_) (fun h => ?_))
  · refine AWp.skip ?_
    have hk' : k < x.Operands.length := by have := of_decide_eq_true h; omega
    repeat' (first
      | refine AWp.seq ?_ | refine AWp.block ?_ | refine AWp.skip ?_ | refine AWp.exit ?_
      | refine AWp.region ?_ | refine AWp.draw mixed (by kernel_rfl) ?_
      | refine AWp.cond (And.intro (fun h => ?_) (fun h => ?_))
      | refine AWp.ret ⟨Or.inl rfl, rfl, ?_⟩
      | refine CallX.pure (c_operandFault f m (x.Operands.getD k default) hf hm) rfl rfl rfl ?_ | refine CallK.intro (fun _ => c_operandFault f m (x.Operands.getD k default) hf hm) ?_
      | exact trivial | refine And.intro ?_ ?_ | intro _)
    all_goals first | assumption | exact Int.natCast_nonneg _ | exact Int.ofNat_lt.2 hk' | (refine tupI (insF_a hop (firstF_hit (k := k) hk' hg ?_) ?_).symm <;> (simp only [opdG]; grind)) | refine round_end (k + 1) ⟨hk', upto hg (by simp only [opdG]; grind)⟩ (by repeat' (first | exact rfl | exact trivial | exact congrArg (fun z => some (AV.i64 z)) (wrap_succ hk' hlen) | refine And.intro ?_ ?_)) (by omega)
  have hk3 : ¬ (k : Int) < x.Operands.length := of_decide_eq_false h
  obtain rfl : k = x.Operands.length := by omega
  have hA : firstF (opdG f m x) x.Operands.length = 0 := firstF_none hg
  have hok := opsOk_of hm hl hA
  clear hg hk h hk3
  refine AWp.exit ?_
  refine AWp.seq (AWp.seq (AWp.region ?_))
  intro _
  refine AWp.block (AWp.loop (fun k : Nat => ⟨[(3, .ptr f.cells), (4, .ptr m.cells), (5, .ptr x.cells), (9, .i64 k)], []⟩) (fun k => k ≤ x.Operands.length ∧ ∀ j, j < k → reuG f x j = 0) (fun k => x.Operands.length - k) 0 ⟨Nat.zero_le _, fun j hj => absurd hj (by omega)⟩ ?_ ?_)
  · repeat' (first | exact rfl | exact trivial | refine And.intro ?_ ?_)
  intro k hk
  obtain ⟨hk, hg⟩ := hk
  refine AWp.seq (AWp.seq (AWp.region ?_))
  intro _
  refine AWp.cond (And.intro (fun h => ?_) (fun h => ?_))
  · refine AWp.skip ?_
    have hk' : k < x.Operands.length := by have := of_decide_eq_true h; omega
    repeat' (first
      | refine AWp.seq ?_ | refine AWp.block ?_ | refine AWp.skip ?_ | refine AWp.exit ?_
      | refine AWp.region ?_ | refine AWp.draw mixed (by kernel_rfl) ?_
      | refine AWp.cond (And.intro (fun h => ?_) (fun h => ?_))
      | refine AWp.ret ⟨Or.inl rfl, rfl, ?_⟩
      | refine CallX.pure (c_reuseFault f x (x.Operands.getD k default) hok (hok.val k hk')) rfl rfl rfl ?_ | refine CallK.intro (fun _ => c_reuseFault f x (x.Operands.getD k default) hok (hok.val k hk')) ?_
      | exact trivial | refine And.intro ?_ ?_ | intro _)
    all_goals first | assumption | exact Int.natCast_nonneg _ | exact Int.ofNat_lt.2 hk' | (refine tupI (insF_b hop hA ((firstF_hit (k := k) hk' hg ?_).trans ?_) ?_).symm <;> (simp only [reuG, Int.toNat_natCast] at *; grind)) | refine round_end (k + 1) ⟨hk', upto hg (by simp only [reuG, Int.toNat_natCast] at *; grind)⟩ (by repeat' (first | exact rfl | exact trivial | exact congrArg (fun z => some (AV.i64 z)) (wrap_succ hk' hlen) | refine And.intro ?_ ?_)) (by omega)
  have hk3 : ¬ (k : Int) < x.Operands.length := of_decide_eq_false h
  obtain rfl : k = x.Operands.length := by omega
  have hB : firstF (reuG f x) x.Operands.length = 0 := firstF_none hg
  have hx := opsAll_of hok hs0 hB
  clear hg hk h hk3
  refine AWp.exit ?_
  repeat' (first
    | refine AWp.seq ?_ | refine AWp.block ?_ | refine AWp.skip ?_ | refine AWp.exit ?_
    | refine AWp.region ?_ | refine AWp.draw mixed (by kernel_rfl) ?_
    | refine AWp.cond (And.intro (fun h => ?_) (fun h => ?_))
    | refine AWp.ret ⟨Or.inl rfl, rfl, ?_⟩
    | refine CallX.pure (c_spoilsFault m x.Spoils hm hs) rfl rfl rfl ?_ | refine CallK.intro (fun _ => c_spoilsFault m x.Spoils hm hs) ?_
    | refine CallX.pure (c_clashes f x hf hx) rfl rfl rfl ?_ | refine CallK.intro (fun _ => c_clashes f x hf hx) ?_
    | exact trivial | refine And.intro ?_ ?_ | intro _)
  all_goals first | assumption | exact tupI (insF_s hop hA hB rfl (by grind)).symm | exact tupI (insF_c hop hA hB (by grind) (by assumption)).symm | refine AWp.loop (fun k : Nat => ⟨[(3, .ptr f.cells), (4, .ptr m.cells), (5, .ptr x.cells), (12, .i64 k)], []⟩) (fun k => k ≤ 2 ∧ ∀ j, j < k → neeG f m x j = false) (fun k => 2 - k) 0 ⟨Nat.zero_le _, fun j hj => absurd hj (by omega)⟩ ?_ ?_
  · repeat' (first | exact rfl | exact trivial | refine And.intro ?_ ?_)
  have hS : firstF (spoG m x.Spoils) x.Spoils.length = 0 := by grind
  have hC : claF f x = false := by assumption
  intro c hc
  obtain ⟨hc, hg⟩ := hc
  have h2 : 2 ≤ maxLen := by unfold maxLen; omega
  refine AWp.seq (AWp.seq (AWp.region ?_))
  intro _
  refine AWp.cond (And.intro (fun h => ?_) (fun h => ?_))
  · refine AWp.skip ?_
    have hc' : c < 2 := by have := of_decide_eq_true h; omega
    refine AWp.seq (AWp.block ?_)
    refine AWp.seq (AWp.region ?_)
    intro _
    refine AWp.seq (AWp.seq (AWp.region ?_))
    intro _
    refine AWp.block (AWp.loop (fun k : Nat => ⟨[(3, .ptr f.cells), (4, .ptr m.cells), (5, .ptr x.cells), (12, .i64 c), (13, .i64 ((0 + cntF (nee1 x c) k : Nat) : Int)), (14, .i64 k)], []⟩) (fun k => k ≤ x.Spoils.length) (fun k => x.Spoils.length - k) 0 (Nat.zero_le _) ?_ ?_)
    · repeat' (first | exact rfl | exact trivial | refine And.intro ?_ ?_)
    intro k hk
    refine AWp.seq (AWp.seq (AWp.region ?_))
    intro _
    refine AWp.cond (And.intro (fun h => ?_) (fun h => ?_))
    · refine AWp.skip ?_
      have hk' : k < x.Spoils.length := by have := of_decide_eq_true h; omega
      repeat' (first
        | refine AWp.seq ?_ | refine AWp.block ?_ | refine AWp.skip ?_ | refine AWp.exit ?_
        | refine AWp.region ?_ | refine AWp.draw mixed (by kernel_rfl) ?_
        | refine AWp.cond (And.intro (fun h => ?_) (fun h => ?_))
        | refine AWp.ret ⟨Or.inl rfl, rfl, ?_⟩
        | exact trivial | refine And.intro ?_ ?_ | intro _)
      all_goals first | exact Int.natCast_nonneg _ | exact Int.ofNat_lt.2 hk' | refine round_end (k + 1) hk' (by repeat' (first | exact rfl | exact trivial | exact congrArg (fun z => some (AV.i64 z)) (wrap_succ hk' hs) | exact congrArg (fun z => some (AV.i64 z)) (cnt_hit (p := nee1 x c) (k := k) 0 (by assumption) (by omega)) | exact congrArg (fun z => some (AV.i64 z)) (cnt_miss (p := nee1 x c) (k := k) 0 (by assumption)) | refine And.intro ?_ ?_)) (by omega)
    have hk3 : ¬ (k : Int) < x.Spoils.length := of_decide_eq_false h
    obtain rfl : k = x.Spoils.length := by omega
    refine AWp.exit ?_
    refine AWp.seq (AWp.seq (AWp.region ?_))
    intro _
    refine AWp.block (AWp.loop (fun k : Nat => ⟨[(3, .ptr f.cells), (4, .ptr m.cells), (5, .ptr x.cells), (12, .i64 c), (13, .i64 ((cntF (nee1 x c) x.Spoils.length + cntF (nee2 f x c) k : Nat) : Int)), (15, .i64 k)], []⟩) (fun k => k ≤ x.Operands.length) (fun k => x.Operands.length - k) 0 (Nat.zero_le _) ?_ ?_)
    · repeat' (first | exact rfl | exact trivial | refine And.intro ?_ ?_)
      exact congrArg (fun z => some (AV.i64 z)) (congrArg Int.ofNat (Nat.zero_add _))
    clear hk hk3 h
    intro k hk
    have hn1 := cntF_le (nee1 x c) x.Spoils.length
    refine AWp.seq (AWp.seq (AWp.region ?_))
    intro _
    refine AWp.cond (And.intro (fun h => ?_) (fun h => ?_))
    · refine AWp.skip ?_
      have hk' : k < x.Operands.length := by have := of_decide_eq_true h; omega
      have hv := hx.ok.val k hk'
      clear hg
      repeat' (first
        | refine AWp.seq ?_ | refine AWp.block ?_ | refine AWp.skip ?_ | refine AWp.exit ?_
        | refine AWp.region ?_ | refine AWp.draw mixed (by kernel_rfl) ?_
        | refine AWp.cond (And.intro (fun h => ?_) (fun h => ?_))
        | refine AWp.ret ⟨Or.inl rfl, rfl, ?_⟩
        | refine CallX.pure (c_classOf f (x.Operands.getD k default).Value hv) rfl rfl rfl ?_ | refine CallK.intro (fun _ => c_classOf f (x.Operands.getD k default).Value hv) ?_
        | exact trivial | refine And.intro ?_ ?_ | intro _)
      all_goals first | assumption | exact Int.natCast_nonneg _ | exact Int.ofNat_lt.2 hk' | refine round_end (k + 1) hk' (by repeat' (first | exact rfl | exact trivial | exact congrArg (fun z => some (AV.i64 z)) (wrap_succ hk' hlen) | exact congrArg (fun z => some (AV.i64 z)) (cnt_hit (p := nee2 f x c) (k := k) _ (by simp only [nee2, bif_if, Int.toNat_natCast] at *; grind) (by omega)) | exact congrArg (fun z => some (AV.i64 z)) (cnt_miss (p := nee2 f x c) (k := k) _ (by simp only [nee2, bif_if, Int.toNat_natCast] at *; grind)) | refine And.intro ?_ ?_)) (by omega) | ((try simp only [bif_if, Int.toNat_natCast] at *); grind)
    have hk3 : ¬ (k : Int) < x.Operands.length := of_decide_eq_false h
    obtain rfl : k = x.Operands.length := by omega
    refine AWp.exit ?_
    repeat' (first
      | refine AWp.seq ?_ | refine AWp.block ?_ | refine AWp.skip ?_ | refine AWp.exit ?_
      | refine AWp.region ?_ | refine AWp.draw mixed (by kernel_rfl) ?_
      | refine AWp.cond (And.intro (fun h => ?_) (fun h => ?_))
      | refine AWp.ret ⟨Or.inl rfl, rfl, ?_⟩
      | exact trivial | refine And.intro ?_ ?_ | intro _)
    all_goals first | exact Int.natCast_nonneg _ | exact Int.ofNat_lt.2 hc' | (refine tupI (insF_n hop hA hB hS hC (anyB_hit (k := c) hc' ?_)).symm; simp only [neeG]; exact ge_neg (a := (nee f x c : Int)) (b := m.reg c) (by assumption)) | refine round_end (c + 1) ⟨hc', upto hg (by simp only [neeG]; exact ge_neg (a := (nee f x c : Int)) (b := m.reg c) (by assumption))⟩ (by repeat' (first | exact rfl | exact trivial | exact congrArg (fun z => some (AV.i64 z)) (wrap_succ hc' h2) | refine And.intro ?_ ?_)) (by omega)
  have hk3 : ¬ (c : Int) < 2 := of_decide_eq_false h
  obtain rfl : c = 2 := by omega
  refine AWp.exit ?_
  refine AWp.seq (AWp.region ?_)
  intro _
  refine AWp.ret ⟨Or.inl rfl, rfl, ?_⟩
  intro _
  exact tupI (insF_n hop hA hB hS hC (anyB_none hg)).symm
end Go.Proofs.YtgkdmdfjfepcdaaDoor

/- Contracts of shape.edge and the document's edgeFault. Condition: the values' classes, the sizes. -/
namespace Go.Proofs.YtgkdmdfjfepcdaaDoor
open Go Go.Abs Go.RowKit

def edgP (f : Fun) (e : Edg) : List Int := (f.Blocks.getD e.Block.toNat default).Params
def edgG (f : Fun) (e : Edg) (j : Nat) : Int :=
  if valB f (e.Args.getD j default) = false then 2
  else if valB f ((edgP f e).getD j default) = false ∨ cls f ((edgP f e).getD j default) ≠ cls f (e.Args.getD j default) then 17 else 0
def edgF (f : Fun) (e : Edg) : Int :=
  if e.Block < 1 ∨ (f.Blocks.length : Int) ≤ e.Block then 6
  else if e.Args.length ≠ (edgP f e).length then 4
  else firstF (edgG f e) e.Args.length
theorem edgF_1 {f : Fun} {e : Edg} (h : e.Block < 1 ∨ (f.Blocks.length : Int) ≤ e.Block) : edgF f e = 6 := if_pos h
theorem edgF_2 {f : Fun} {e : Edg} (h : ¬ (e.Block < 1 ∨ (f.Blocks.length : Int) ≤ e.Block)) (h2 : e.Args.length ≠ (edgP f e).length) : edgF f e = 4 := by unfold edgF; rw [if_neg h, if_pos h2]
theorem edgF_3 {f : Fun} {e : Edg} {v : Int} (h : ¬ (e.Block < 1 ∨ (f.Blocks.length : Int) ≤ e.Block)) (h2 : e.Args.length = (edgP f e).length) (h3 : firstF (edgG f e) e.Args.length = v) : edgF f e = v := by unfold edgF; rw [if_neg h, if_neg (fun z => z h2), h3]
theorem edgG_2 {f : Fun} {e : Edg} {j : Nat} (h : valB f (e.Args.getD j default) = false) : edgG f e j = 2 := if_pos h
theorem edgG_17 {f : Fun} {e : Edg} {j : Nat} (h : valB f (e.Args.getD j default) = true) (h2 : valB f ((edgP f e).getD j default) = false ∨ cls f ((edgP f e).getD j default) ≠ cls f (e.Args.getD j default)) : edgG f e j = 17 := by unfold edgG; rw [if_neg (by rw [h]; decide), if_pos h2]
theorem edgG_0 {f : Fun} {e : Edg} {j : Nat} (h : valB f (e.Args.getD j default) = true) (h2 : ¬ (valB f ((edgP f e).getD j default) = false ∨ cls f ((edgP f e).getD j default) ≠ cls f (e.Args.getD j default))) : edgG f e j = 0 := by unfold edgG; rw [if_neg (by rw [h]; decide), if_neg h2]

set_option maxHeartbeats 1000000 in
theorem c_edge (f : Fun) (e : Edg) (hlen : e.Args.length ≤ maxLen) : ACallIs B.P 38 [f.av, e.av] (.i64 (edgF f e)) := by
  refine ACallIs.enter B _ _ Tryd.func38 rfl rfl Tryd.ntmps38 Tryd.results38 rfl fun hreal => ?_
  clear hreal
  refine AWp.seq (AWp.region ?_)
  intro _
  refine AWp.freezeObj 2 rfl rfl ?_
  refine AWp.freezeObj 3 rfl rfl ?_
  repeat' (first
    | refine AWp.seq ?_ | refine AWp.block ?_ | refine AWp.skip ?_ | refine AWp.exit ?_
    | refine AWp.region ?_ | refine AWp.draw mixed (by kernel_rfl) ?_
    | refine AWp.cond (And.intro (fun h => ?_) (fun h => ?_))
    | refine AWp.ret ⟨Or.inl rfl, rfl, ?_⟩
    | exact trivial | refine And.intro ?_ ?_ | intro _)
  all_goals first | assumption | exact tupI (edgF_1 (by (try simp only [bif_if] at *); grind)).symm | exact tupI (edgF_2 (by (try simp only [bif_if] at *); grind) (by (try simp only [bif_if, edgP] at *); grind)).symm | refine AWp.loop (fun k : Nat => ⟨[(2, .ptr f.cells), (5, ints (edgP f e)), (33, ints e.Args), (34, .i64 e.Args.length), (35, .i64 k)], []⟩) (fun k => k ≤ e.Args.length ∧ ∀ j, j < k → edgG f e j = 0) (fun k => e.Args.length - k) 0 ⟨Nat.zero_le _, fun j hj => absurd hj (by omega)⟩ ?_ ?_ | ((try simp only [bif_if] at *); grind)
  · repeat' (first | exact rfl | exact trivial | refine And.intro ?_ ?_)
  have hop : ¬ (e.Block < 1 ∨ (f.Blocks.length : Int) ≤ e.Block) := by (try simp only [bif_if] at *); grind
  have hel : e.Args.length = (edgP f e).length := by unfold edgP; (try simp only [bif_if] at *); grind
  intro k hk
  obtain ⟨hk, hg⟩ := hk
  refine AWp.seq (AWp.region ?_)
  intro _
  refine AWp.seq (AWp.cond (And.intro (fun h => ?_) (fun h => ?_)))
  · refine AWp.skip ?_
    have hk' : k < e.Args.length := by have := of_decide_eq_true h; omega
    have hv1 : valB f (e.Args.getD k default) = true → 0 ≤ e.Args.getD k default ∧ e.Args.getD k default < f.Values.length := idx_ok
    have hv2 : valB f ((edgP f e).getD k default) = true → 0 ≤ (edgP f e).getD k default ∧ (edgP f e).getD k default < f.Values.length := idx_ok
    repeat' (first
      | refine AWp.seq ?_ | refine AWp.block ?_ | refine AWp.skip ?_ | refine AWp.exit ?_
      | refine AWp.region ?_ | refine AWp.draw mixed (by kernel_rfl) ?_
      | refine AWp.cond (And.intro (fun h => ?_) (fun h => ?_))
      | refine AWp.ret ⟨Or.inl rfl, rfl, ?_⟩
      | refine CallX.pure (c_value f _) rfl rfl rfl ?_ | refine CallK.intro (fun _ => c_value f _) ?_
      | exact trivial | refine And.intro ?_ ?_ | intro _)
    all_goals first | assumption | exact Int.natCast_nonneg _ | exact Int.ofNat_lt.2 hk' | exact Int.ofNat_lt.2 (by omega) | (refine tupI (edgF_3 hop hel ((firstF_hit (k := k) hk' hg ?_).trans ?_)).symm <;> (clear hg; (try simp only [bif_if, Int.toNat_natCast, cls] at *); grind [edgG_2, edgG_17, cls])) | refine round_end (k + 1) ⟨hk', upto hg (by clear hg; (try simp only [bif_if, Int.toNat_natCast, cls] at *); grind [edgG_0, cls])⟩ (by repeat' (first | exact rfl | exact trivial | exact congrArg (fun z => some (AV.i64 z)) (wrap_succ hk' hlen) | refine And.intro ?_ ?_)) (by omega) | ((try simp only [bif_if, Int.toNat_natCast] at *); grind)
  have hk3 : ¬ (k : Int) < e.Args.length := of_decide_eq_false h
  refine AWp.exit ?_
  refine AWp.seq (AWp.region ?_)
  intro _
  refine AWp.ret ⟨Or.inl rfl, rfl, ?_⟩
  intro _
  exact tupI (edgF_3 hop hel (firstF_none (fun j hj => hg j (by omega)))).symm
end Go.Proofs.YtgkdmdfjfepcdaaDoor

/- Contract of the document's edgeFault. Condition: the values' classes, the sizes. -/
namespace Go.Proofs.YtgkdmdfjfepcdaaDoor
open Go Go.Abs Go.RowKit

set_option maxHeartbeats 1000000 in
theorem c_edgeFault (f : Fun) (e : Edg) (hf : VOk f) (hb : f.Blocks.length ≤ 16) (hlen : e.Args.length ≤ maxLen) : ACallIs B.P 53 [f.av, e.av] (.i64 (edgF f e)) := by
  have hw : IntKind.i64.wrap ((f.Blocks.length : Int) - 1) = f.Blocks.length - 1 := wrap_in (by omega) (by omega)
  refine ACallIs.enter B _ _ Tryd.func53 rfl rfl Tryd.ntmps53 Tryd.results53 rfl fun hreal => ?_
  clear hreal
  refine AWp.seq (AWp.region ?_)
  intro _
  refine AWp.freezeObj 2 rfl rfl ?_
  refine AWp.freezeObj 3 rfl rfl ?_
  repeat' (first
    | refine AWp.seq ?_ | refine AWp.block ?_ | refine AWp.skip ?_ | refine AWp.exit ?_
    | refine AWp.region ?_ | refine AWp.draw mixed (by kernel_rfl) ?_
    | refine AWp.cond (And.intro (fun h => ?_) (fun h => ?_))
    | refine AWp.ret ⟨Or.inl rfl, rfl, ?_⟩
    | refine CallX.pure (c_In e.Block 1 _) rfl rfl rfl ?_ | refine CallK.intro (fun _ => c_In e.Block 1 _) ?_
    | exact trivial | refine And.intro ?_ ?_ | intro _)
  all_goals first | assumption | exact tupI (edgF_1 (by (try simp only [bif_if, inB] at *); grind)).symm | exact tupI (edgF_2 (by (try simp only [bif_if, inB] at *); grind) (by (try simp only [bif_if, edgP] at *); grind)).symm | refine AWp.loop (fun k : Nat => ⟨[(2, .ptr f.cells), (3, .ptr e.cells), (5, ints (edgP f e)), (6, .i64 k)], []⟩) (fun k => k ≤ e.Args.length ∧ ∀ j, j < k → edgG f e j = 0) (fun k => e.Args.length - k) 0 ⟨Nat.zero_le _, fun j hj => absurd hj (by omega)⟩ ?_ ?_ | ((try simp only [bif_if, inB] at *); grind)
  · repeat' (first | exact rfl | exact trivial | refine And.intro ?_ ?_)
  have hop : ¬ (e.Block < 1 ∨ (f.Blocks.length : Int) ≤ e.Block) := by (try simp only [bif_if, inB] at *); grind
  have hel : e.Args.length = (edgP f e).length := by unfold edgP; (try simp only [bif_if] at *); grind
  intro k hk
  obtain ⟨hk, hg⟩ := hk
  refine AWp.seq (AWp.seq (AWp.region ?_))
  intro _
  refine AWp.cond (And.intro (fun h => ?_) (fun h => ?_))
  · refine AWp.skip ?_
    have hk' : k < e.Args.length := by have := of_decide_eq_true h; omega
    repeat' (first
      | refine AWp.seq ?_ | refine AWp.block ?_ | refine AWp.skip ?_ | refine AWp.exit ?_
      | refine AWp.region ?_ | refine AWp.draw mixed (by kernel_rfl) ?_
      | refine AWp.cond (And.intro (fun h => ?_) (fun h => ?_))
      | refine AWp.ret ⟨Or.inl rfl, rfl, ?_⟩
      | refine CallX.pure (c_valueMay f hf.1 (e.Args.getD k default)) rfl rfl rfl ?_ | refine CallK.intro (fun _ => c_valueMay f hf.1 (e.Args.getD k default)) ?_
      | refine CallX.pure (c_valueMay f hf.1 ((edgP f e).getD k default)) rfl rfl rfl ?_ | refine CallK.intro (fun _ => c_valueMay f hf.1 ((edgP f e).getD k default)) ?_
      | refine CallX.pure (c_classOf f (e.Args.getD k default) (by grind)) rfl rfl rfl ?_ | refine CallK.intro (fun _ => c_classOf f (e.Args.getD k default) (by grind)) ?_
      | refine CallX.pure (c_classOf f ((edgP f e).getD k default) (by grind)) rfl rfl rfl ?_ | refine CallK.intro (fun _ => c_classOf f ((edgP f e).getD k default) (by grind)) ?_
      | exact trivial | refine And.intro ?_ ?_ | intro _)
    all_goals first | assumption | exact Int.natCast_nonneg _ | exact Int.ofNat_lt.2 hk' | exact Int.ofNat_lt.2 (by omega) | (refine tupI (edgF_3 hop hel ((firstF_hit (k := k) hk' hg ?_).trans ?_)).symm <;> (clear hg; (try simp only [bif_if, Int.toNat_natCast] at *); grind [edgG_2, edgG_17])) | refine round_end (k + 1) ⟨hk', upto hg (by clear hg; (try simp only [bif_if, Int.toNat_natCast] at *); grind [edgG_0])⟩ (by repeat' (first | exact rfl | exact trivial | exact congrArg (fun z => some (AV.i64 z)) (wrap_succ hk' hlen) | refine And.intro ?_ ?_)) (by omega) | ((try simp only [bif_if, Int.toNat_natCast] at *); grind)
  have hk3 : ¬ (k : Int) < (edgP f e).length := of_decide_eq_false h
  refine AWp.exit ?_
  refine AWp.seq (AWp.region ?_)
  intro _
  refine AWp.ret ⟨Or.inl rfl, rfl, ?_⟩
  intro _
  exact tupI (edgF_3 hop hel (firstF_none (fun j hj => hg j (by omega)))).symm
end Go.Proofs.YtgkdmdfjfepcdaaDoor

/- Contract of shape.sizes. No condition but what a slice may weigh. -/
namespace Go.Proofs.YtgkdmdfjfepcdaaDoor
open Go Go.Abs Go.RowKit

def allF (bs : List Blk) : Nat → Nat
  | 0 => 0
  | k + 1 => allF bs k + (bs.getD k default).Instrs.length
def sizI (b : Blk) (j : Nat) : Int := if 6 < (b.Instrs.getD j default).Operands.length ∨ 20 < (b.Instrs.getD j default).Spoils.length then 1 else 0
def sizG (bs : List Blk) (k : Nat) : Int :=
  if 5 < (bs.getD k default).Params.length ∨ 40 < (bs.getD k default).Instrs.length ∨ 3 < (bs.getD k default).Edges.length ∨ 160 < allF bs (k + 1) then 1
  else firstF (sizI (bs.getD k default)) (bs.getD k default).Instrs.length
def sizF (f : Fun) : Int :=
  if f.Blocks.length < 1 ∨ 16 < f.Blocks.length ∨ 160 < f.Values.length then 1 else firstF (sizG f.Blocks) f.Blocks.length
theorem sizF_1 {f : Fun} (h : f.Blocks.length < 1 ∨ 16 < f.Blocks.length ∨ 160 < f.Values.length) : sizF f = 1 := if_pos h
theorem sizF_2 {f : Fun} {v : Int} (h : ¬ (f.Blocks.length < 1 ∨ 16 < f.Blocks.length ∨ 160 < f.Values.length)) (hv : firstF (sizG f.Blocks) f.Blocks.length = v) : sizF f = v := by unfold sizF; rw [if_neg h, hv]
theorem sizG_1 {bs : List Blk} {k : Nat} (h : 5 < (bs.getD k default).Params.length ∨ 40 < (bs.getD k default).Instrs.length ∨ 3 < (bs.getD k default).Edges.length ∨ 160 < allF bs (k + 1)) : sizG bs k = 1 := if_pos h
theorem sizG_2 {bs : List Blk} {k : Nat} {v : Int} (h : ¬ (5 < (bs.getD k default).Params.length ∨ 40 < (bs.getD k default).Instrs.length ∨ 3 < (bs.getD k default).Edges.length ∨ 160 < allF bs (k + 1))) (hv : firstF (sizI (bs.getD k default)) (bs.getD k default).Instrs.length = v) : sizG bs k = v := by unfold sizG; rw [if_neg h, hv]

set_option maxHeartbeats 1000000 in
theorem c_sizes (f : Fun) : ACallIs B.P 36 [f.av] (.i64 (sizF f)) := by
  refine ACallIs.enter B _ _ Tryd.func36 rfl rfl Tryd.ntmps36 Tryd.results36 rfl fun hreal => ?_
  clear hreal
  refine AWp.seq (AWp.region ?_)
  intro _
  refine AWp.freezeObj 1 rfl rfl ?_
  repeat' (first
    | refine AWp.seq ?_ | refine AWp.block ?_ | refine AWp.skip ?_ | refine AWp.exit ?_
    | refine AWp.region ?_ | refine AWp.draw mixed (by kernel_rfl) ?_
    | refine AWp.cond (And.intro (fun h => ?_) (fun h => ?_))
    | refine AWp.ret ⟨Or.inl rfl, rfl, ?_⟩
    | exact trivial | refine And.intro ?_ ?_ | intro _)
  all_goals first | assumption | exact tupI (sizF_1 (by (try simp only [bif_if] at *); grind)).symm | refine AWp.loop (fun k : Nat => ⟨[(3, .i64 (allF f.Blocks k)), (25, roL 3 Blk.cells f.Blocks), (26, .i64 f.Blocks.length), (27, .i64 k)], []⟩) (fun k => k ≤ f.Blocks.length ∧ allF f.Blocks k ≤ 160 ∧ ∀ j, j < k → sizG f.Blocks j = 0) (fun k => f.Blocks.length - k) 0 ⟨Nat.zero_le _, Nat.zero_le _, fun j hj => absurd hj (by omega)⟩ ?_ ?_ | ((try simp only [bif_if] at *); grind)
  · repeat' (first | exact rfl | exact trivial | refine And.intro ?_ ?_)
  have hop : ¬ (f.Blocks.length < 1 ∨ 16 < f.Blocks.length ∨ 160 < f.Values.length) := by (try simp only [bif_if] at *); grind
  have hlen : f.Blocks.length ≤ maxLen := by unfold maxLen; omega
  intro k hk
  obtain ⟨hk, ha, hg⟩ := hk
  refine AWp.seq (AWp.region ?_)
  intro _
  refine AWp.seq (AWp.cond (And.intro (fun h => ?_) (fun h => ?_)))
  · refine AWp.skip ?_
    have hk' : k < f.Blocks.length := by have := of_decide_eq_true h; omega
    have hS : allF f.Blocks (k + 1) = allF f.Blocks k + (f.Blocks.getD k default).Instrs.length := rfl
    have hw : (f.Blocks.getD k default).Instrs.length ≤ 40 → IntKind.i64.wrap ((allF f.Blocks k : Int) + (f.Blocks.getD k default).Instrs.length) = ((allF f.Blocks (k + 1) : Nat) : Int) := fun h => by rw [hS, wrap_in (by omega) (by omega)]; omega
    repeat' (first
      | refine AWp.seq ?_ | refine AWp.block ?_ | refine AWp.skip ?_ | refine AWp.exit ?_
      | refine AWp.region ?_ | refine AWp.draw mixed (by kernel_rfl) ?_
      | refine AWp.cond (And.intro (fun h => ?_) (fun h => ?_))
      | refine AWp.ret ⟨Or.inl rfl, rfl, ?_⟩
      | exact trivial | refine And.intro ?_ ?_ | intro _)
    all_goals first | assumption | exact Int.natCast_nonneg _ | exact Int.ofNat_lt.2 hk' | exact tupI (sizF_2 hop ((firstF_hit (k := k) hk' hg (by rw [sizG_1 (by clear hg; (try simp only [bif_if, Int.toNat_natCast] at *); grind)]; decide)).trans (sizG_1 (by clear hg; (try simp only [bif_if, Int.toNat_natCast] at *); grind)))).symm | refine AWp.loop (fun j : Nat => ⟨[(3, .i64 (allF f.Blocks (k + 1))), (25, roL 3 Blk.cells f.Blocks), (26, .i64 f.Blocks.length), (27, .i64 k), (55, roL 3 Ins.cells (f.Blocks.getD k default).Instrs), (56, .i64 (f.Blocks.getD k default).Instrs.length), (57, .i64 j)], []⟩) (fun j => j ≤ (f.Blocks.getD k default).Instrs.length ∧ ∀ a, a < j → sizI (f.Blocks.getD k default) a = 0) (fun j => (f.Blocks.getD k default).Instrs.length - j) 0 ⟨Nat.zero_le _, fun j hj => absurd hj (by omega)⟩ ?_ ?_ | ((try simp only [bif_if, Int.toNat_natCast] at *); grind)
    · repeat' (first | exact rfl | exact trivial | exact congrArg (fun z => some (AV.i64 z)) (hw (by (try simp only [bif_if, Int.toNat_natCast] at *); grind)) | refine And.intro ?_ ?_)
    intro j hj
    obtain ⟨hj, hgj⟩ := hj
    have hng : ¬ (5 < (f.Blocks.getD k default).Params.length ∨ 40 < (f.Blocks.getD k default).Instrs.length ∨ 3 < (f.Blocks.getD k default).Edges.length ∨ 160 < allF f.Blocks (k + 1)) := (by clear hg hgj; (try simp only [bif_if, Int.toNat_natCast] at *); grind)
    have hli : (f.Blocks.getD k default).Instrs.length ≤ maxLen := by unfold maxLen; omega
    refine AWp.seq (AWp.region ?_)
    intro _
    refine AWp.seq (AWp.cond (And.intro (fun h => ?_) (fun h => ?_)))
    · refine AWp.skip ?_
      have hj' : j < (f.Blocks.getD k default).Instrs.length := by have := of_decide_eq_true h; omega
      repeat' (first
        | refine AWp.seq ?_ | refine AWp.block ?_ | refine AWp.skip ?_ | refine AWp.exit ?_
        | refine AWp.region ?_ | refine AWp.draw mixed (by kernel_rfl) ?_
        | refine AWp.cond (And.intro (fun h => ?_) (fun h => ?_))
        | refine AWp.ret ⟨Or.inl rfl, rfl, ?_⟩
        | exact trivial | refine And.intro ?_ ?_ | intro _)
      all_goals first | assumption | exact Int.natCast_nonneg _ | exact Int.ofNat_lt.2 hj' | exact tupI (sizF_2 hop ((firstF_hit (k := k) hk' hg (by rw [sizG_2 hng (firstF_hit (k := j) hj' hgj (by clear hg hgj; simp only [sizI]; (try simp only [bif_if, Int.toNat_natCast] at *); grind))]; exact (by clear hg hgj; simp only [sizI]; (try simp only [bif_if, Int.toNat_natCast] at *); grind))).trans (sizG_2 hng ((firstF_hit (k := j) hj' hgj (by clear hg hgj; simp only [sizI]; (try simp only [bif_if, Int.toNat_natCast] at *); grind)).trans (by clear hg hgj; simp only [sizI]; (try simp only [bif_if, Int.toNat_natCast] at *); grind))))).symm | refine round_end (j + 1) ⟨hj', upto hgj (by clear hg hgj; simp only [sizI]; (try simp only [bif_if, Int.toNat_natCast] at *); grind)⟩ (by repeat' (first | exact rfl | exact trivial | exact congrArg (fun z => some (AV.i64 z)) (wrap_succ hj' hli) | refine And.intro ?_ ?_)) (by omega) | ((try simp only [bif_if, Int.toNat_natCast] at *); grind)
    have hj3 : ¬ (j : Int) < (f.Blocks.getD k default).Instrs.length := of_decide_eq_false h
    refine AWp.exit ?_
    refine AWp.region ?_
    intro _
    refine round_end (k + 1) ⟨hk', by omega, upto hg (sizG_2 hng (firstF_none (fun a ha => hgj a (by omega))))⟩ (by repeat' (first | exact rfl | exact trivial | exact congrArg (fun z => some (AV.i64 z)) (wrap_succ hk' hlen) | refine And.intro ?_ ?_)) (by omega)
  have hk3 : ¬ (k : Int) < f.Blocks.length := of_decide_eq_false h
  refine AWp.exit ?_
  refine AWp.seq (AWp.region ?_)
  intro _
  refine AWp.ret ⟨Or.inl rfl, rfl, ?_⟩
  intro _
  exact tupI (sizF_2 hop (firstF_none (fun j hj => hg j (by omega)))).symm
end Go.Proofs.YtgkdmdfjfepcdaaDoor

/- Contract of the document's bigFault. Condition: what the instructions of a block may weigh. -/
namespace Go.Proofs.YtgkdmdfjfepcdaaDoor
open Go Go.Abs Go.RowKit

set_option maxHeartbeats 1000000 in
theorem c_bigFault (f : Fun) (hi : ∀ k, (f.Blocks.getD k default).Instrs.length ≤ 140737488351232) : ACallIs B.P 51 [f.av] (.i64 (sizF f)) := by
  refine ACallIs.enter B _ _ Tryd.func51 rfl rfl Tryd.ntmps51 Tryd.results51 rfl fun hreal => ?_
  clear hreal
  refine AWp.seq (AWp.region ?_)
  intro _
  refine AWp.freezeObj 1 rfl rfl ?_
  repeat' (first
    | refine AWp.seq ?_ | refine AWp.block ?_ | refine AWp.skip ?_ | refine AWp.exit ?_
    | refine AWp.region ?_ | refine AWp.draw mixed (by kernel_rfl) ?_
    | refine AWp.cond (And.intro (fun h => ?_) (fun h => ?_))
    | refine AWp.ret ⟨Or.inl rfl, rfl, ?_⟩
    | refine CallX.pure (c_In _ 1 16) rfl rfl rfl ?_ | refine CallK.intro (fun _ => c_In _ 1 16) ?_
    | exact trivial | refine And.intro ?_ ?_ | intro _)
  all_goals first | assumption | exact tupI (sizF_1 (by (try simp only [bif_if, inB] at *); grind)).symm | refine AWp.loop (fun k : Nat => ⟨[(1, .ptr f.cells), (3, .i64 (allF f.Blocks k)), (4, .i64 k)], []⟩) (fun k => k ≤ f.Blocks.length ∧ allF f.Blocks k ≤ 160 ∧ ∀ j, j < k → sizG f.Blocks j = 0) (fun k => f.Blocks.length - k) 0 ⟨Nat.zero_le _, Nat.zero_le _, fun j hj => absurd hj (by omega)⟩ ?_ ?_ | ((try simp only [bif_if, inB] at *); grind)
  · repeat' (first | exact rfl | exact trivial | refine And.intro ?_ ?_)
  have hop : ¬ (f.Blocks.length < 1 ∨ 16 < f.Blocks.length ∨ 160 < f.Values.length) := by (try simp only [bif_if, inB] at *); grind
  have hlen : f.Blocks.length ≤ maxLen := by unfold maxLen; omega
  intro k hk
  obtain ⟨hk, ha, hg⟩ := hk
  refine AWp.seq (AWp.seq (AWp.region ?_))
  intro _
  refine AWp.cond (And.intro (fun h => ?_) (fun h => ?_))
  · refine AWp.skip ?_
    have hk' : k < f.Blocks.length := by have := of_decide_eq_true h; omega
    have hS : allF f.Blocks (k + 1) = allF f.Blocks k + (f.Blocks.getD k default).Instrs.length := rfl
    have hik := hi k
    have hw : IntKind.i64.wrap ((allF f.Blocks k : Int) + (f.Blocks.getD k default).Instrs.length) = ((allF f.Blocks (k + 1) : Nat) : Int) := by rw [hS, wrap_in (by omega) (by omega)]; omega
    refine AWp.seq (AWp.block (AWp.seq (AWp.region ?_)))
    refine And.intro (fun _ => And.intro (Int.natCast_nonneg _) (Int.ofNat_lt.2 hk')) ?_
    intro _
    refine AWp.freezeObj 5 rfl rfl ?_
    repeat' (first
      | refine AWp.seq ?_ | refine AWp.block ?_ | refine AWp.skip ?_ | refine AWp.exit ?_
      | refine AWp.region ?_ | refine AWp.draw mixed (by kernel_rfl) ?_
      | refine AWp.cond (And.intro (fun h => ?_) (fun h => ?_))
      | refine AWp.ret ⟨Or.inl rfl, rfl, ?_⟩
      | exact trivial | refine And.intro ?_ ?_ | intro _)
    all_goals first | assumption | exact Int.natCast_nonneg _ | exact Int.ofNat_lt.2 hk' | exact tupI (sizF_2 hop ((firstF_hit (k := k) hk' hg (by rw [sizG_1 (by clear hg; (try simp only [bif_if, Int.toNat_natCast] at *); grind)]; decide)).trans (sizG_1 (by clear hg; (try simp only [bif_if, Int.toNat_natCast] at *); grind)))).symm | refine AWp.loop (fun j : Nat => ⟨[(1, .ptr f.cells), (3, .i64 (allF f.Blocks (k + 1))), (4, .i64 k), (5, .ptr (f.Blocks.getD k default).cells), (6, .i64 j)], []⟩) (fun j => j ≤ (f.Blocks.getD k default).Instrs.length ∧ ∀ a, a < j → sizI (f.Blocks.getD k default) a = 0) (fun j => (f.Blocks.getD k default).Instrs.length - j) 0 ⟨Nat.zero_le _, fun j hj => absurd hj (by omega)⟩ ?_ ?_ | ((try simp only [bif_if, Int.toNat_natCast] at *); grind)
    · repeat' (first | exact rfl | exact trivial | exact congrArg (fun z => some (AV.i64 z)) hw | refine And.intro ?_ ?_)
    intro j hj
    obtain ⟨hj, hgj⟩ := hj
    have hng : ¬ (5 < (f.Blocks.getD k default).Params.length ∨ 40 < (f.Blocks.getD k default).Instrs.length ∨ 3 < (f.Blocks.getD k default).Edges.length ∨ 160 < allF f.Blocks (k + 1)) := (by clear hg hgj; (try simp only [bif_if, Int.toNat_natCast] at *); grind)
    have hli : (f.Blocks.getD k default).Instrs.length ≤ maxLen := by unfold maxLen; omega
    refine AWp.seq (AWp.seq (AWp.region ?_))
    intro _
    refine AWp.cond (And.intro (fun h => ?_) (fun h => ?_))
    · refine AWp.skip ?_
      have hj' : j < (f.Blocks.getD k default).Instrs.length := by have := of_decide_eq_true h; omega
      repeat' (first
        | refine AWp.seq ?_ | refine AWp.block ?_ | refine AWp.skip ?_ | refine AWp.exit ?_
        | refine AWp.region ?_ | refine AWp.draw mixed (by kernel_rfl) ?_
        | refine AWp.cond (And.intro (fun h => ?_) (fun h => ?_))
        | refine AWp.ret ⟨Or.inl rfl, rfl, ?_⟩
        | exact trivial | refine And.intro ?_ ?_ | intro _)
      all_goals first | assumption | exact Int.natCast_nonneg _ | exact Int.ofNat_lt.2 hj' | exact tupI (sizF_2 hop ((firstF_hit (k := k) hk' hg (by rw [sizG_2 hng (firstF_hit (k := j) hj' hgj (by clear hg hgj; simp only [sizI]; (try simp only [bif_if, Int.toNat_natCast] at *); grind))]; exact (by clear hg hgj; simp only [sizI]; (try simp only [bif_if, Int.toNat_natCast] at *); grind))).trans (sizG_2 hng ((firstF_hit (k := j) hj' hgj (by clear hg hgj; simp only [sizI]; (try simp only [bif_if, Int.toNat_natCast] at *); grind)).trans (by clear hg hgj; simp only [sizI]; (try simp only [bif_if, Int.toNat_natCast] at *); grind))))).symm | refine round_end (j + 1) ⟨hj', upto hgj (by clear hg hgj; simp only [sizI]; (try simp only [bif_if, Int.toNat_natCast] at *); grind)⟩ (by repeat' (first | exact rfl | exact trivial | exact congrArg (fun z => some (AV.i64 z)) (wrap_succ hj' hli) | refine And.intro ?_ ?_)) (by omega) | ((try simp only [bif_if, Int.toNat_natCast] at *); grind)
    have hj3 : ¬ (j : Int) < (f.Blocks.getD k default).Instrs.length := of_decide_eq_false h
    refine AWp.exit ?_
    refine AWp.region ?_
    intro _
    refine round_end (k + 1) ⟨hk', by omega, upto hg (sizG_2 hng (firstF_none (fun a ha => hgj a (by omega))))⟩ (by repeat' (first | exact rfl | exact trivial | exact congrArg (fun z => some (AV.i64 z)) (wrap_succ hk' hlen) | refine And.intro ?_ ?_)) (by omega)
  have hk3 : ¬ (k : Int) < f.Blocks.length := of_decide_eq_false h
  refine AWp.exit ?_
  refine AWp.seq (AWp.region ?_)
  intro _
  refine AWp.ret ⟨Or.inl rfl, rfl, ?_⟩
  intro _
  exact tupI (sizF_2 hop (firstF_none (fun j hj => hg j (by omega)))).symm
end Go.Proofs.YtgkdmdfjfepcdaaDoor

/- Contract of the document's has. -/
namespace Go.Proofs.YtgkdmdfjfepcdaaDoor
open Go Go.Abs Go.RowKit

def isI (g : Nat → Int) (n : Int) (j : Nat) : Bool := g j == n
set_option maxHeartbeats 1000000 in
theorem c_hasR (g : Nat → Int) (m : Nat) (n : Int) (hlen : m ≤ maxLen) : ACallIs B.P 56 [.ro 1 m (fun i => intC (g i)), .i64 n] (.bool (anyB (isI g n) m)) := by
  refine ACallIs.enter B _ _ Tryd.func56 rfl rfl Tryd.ntmps56 Tryd.results56 rfl fun hreal => ?_
  clear hreal
  refine AWp.seq (AWp.region ?_)
  intro _
  refine AWp.seq (AWp.seq (AWp.region ?_))
  intro _
  refine AWp.block (AWp.loop (fun k : Nat => ⟨[(0, .ro 1 m (fun i => intC (g i))), (1, .i64 n), (5, .i64 k)], []⟩) (fun k => k ≤ m ∧ ∀ j, j < k → isI g n j = false) (fun k => m - k) 0 ⟨Nat.zero_le _, fun j hj => absurd hj (by omega)⟩ ?_ ?_)
  · repeat' (first | exact rfl | exact trivial | refine And.intro ?_ ?_)
  intro k hk
  obtain ⟨hk, hg⟩ := hk
  repeat' (first
    | refine AWp.seq ?_ | refine AWp.block ?_ | refine AWp.skip ?_ | refine AWp.exit ?_
    | refine AWp.region ?_ | refine AWp.draw mixed (by kernel_rfl) ?_
    | refine AWp.cond (And.intro (fun h => ?_) (fun h => ?_))
    | refine AWp.ret ⟨Or.inl rfl, rfl, ?_⟩
    | exact trivial | refine And.intro ?_ ?_ | intro _)
  all_goals first | assumption | exact tupB (anyB_none (n := m) (fun j hj => hg j (by grind))).symm | refine tupB (anyB_hit (k := k) (n := m) (by grind) ?_).symm | refine round_end (k + 1) ⟨by grind, upto hg ?_⟩ (by repeat' (first | exact rfl | exact trivial | exact congrArg (fun z => some (AV.i64 z)) (wrap_succ (show k < m from by grind) hlen) | refine And.intro ?_ ?_)) (by grind) | skip
  all_goals first | assumption | ((try clear hg); (try simp only [Int.toNat_natCast, Bool.cond_true_left, Bool.cond_false_right, Bool.or_eq_true, Bool.and_eq_true, Bool.or_eq_false_iff, Bool.and_eq_false_iff, beq_eq_false_iff_ne, Bool.not_eq_true', Bool.not_eq_false', decide_eq_true_eq, decide_eq_false_iff_not, beq_iff_eq, isI] at *); (try simp only [bif_if] at *); ((skip) <;> grind))
theorem anyB_mem {l : List Int} {n : Int} : anyB (isI (fun i => l.getD i default) n) l.length = decide (n ∈ l) := by
  by_cases h : n ∈ l
  · obtain ⟨i, hi, rfl⟩ := List.getElem_of_mem h
    rw [decide_eq_true h]
    exact anyB_hit (k := i) hi (by unfold isI; show (l.getD i default == l[i]) = true; rw [List.getD_eq_getElem?_getD, List.getElem?_eq_getElem hi]; simp)
  · rw [decide_eq_false h]
    refine anyB_none fun j hj => ?_
    unfold isI
    show (l.getD j default == n) = false
    rw [List.getD_eq_getElem?_getD, List.getElem?_eq_getElem hj]
    simp only [Option.getD_some, beq_eq_false_iff_ne, ne_eq]
    exact fun e => h (e ▸ List.getElem_mem hj)
theorem c_has (l : List Int) (n : Int) (hlen : l.length ≤ maxLen) : ACallIs B.P 56 [ints l, .i64 n] (.bool (decide (n ∈ l))) := by
  rw [← anyB_mem]; exact c_hasR _ _ n hlen
def isB (m : Nat → Bool) (b : Bool) (j : Nat) : Bool := b == m j
set_option maxHeartbeats 1000000 in
theorem c_IndexBool (m : Nat → Bool) (n : Nat) (b : Bool) (hlen : n ≤ maxLen) : ACallIs B.P 81 [.ro 1 n (fun i => [.bool (m i)]), .bool b] (.i64 (idxF (isB m b) n)) := by
  refine ACallIs.enter B _ _ Tryd.func81 rfl rfl Tryd.ntmps81 Tryd.results81 rfl fun hreal => ?_
  clear hreal
  refine AWp.seq (AWp.region ?_)
  intro _
  refine AWp.seq (AWp.seq (AWp.region ?_))
  intro _
  refine AWp.block (AWp.loop (fun k : Nat => ⟨[(0, .ro 1 n (fun i => [.bool (m i)])), (1, .bool b), (7, .i64 n), (8, .i64 k)], []⟩) (fun k => k ≤ n ∧ ∀ j, j < k → isB m b j = false) (fun k => n - k) 0 ⟨Nat.zero_le _, fun j hj => absurd hj (by omega)⟩ ?_ ?_)
  · repeat' (first | exact rfl | exact trivial | refine And.intro ?_ ?_)
  intro k hk
  obtain ⟨hk, hg⟩ := hk
  repeat' (first
    | refine AWp.seq ?_ | refine AWp.block ?_ | refine AWp.skip ?_ | refine AWp.exit ?_
    | refine AWp.region ?_ | refine AWp.draw mixed (by kernel_rfl) ?_
    | refine AWp.cond (And.intro (fun h => ?_) (fun h => ?_))
    | refine AWp.ret ⟨Or.inl rfl, rfl, ?_⟩
    | exact trivial | refine And.intro ?_ ?_ | intro _)
  all_goals first | assumption | exact tupI (idxF_none (n := n) (fun j hj => hg j (by grind))).symm | refine tupI (idxF_hit (k := k) (n := n) (by grind) hg ?_).symm | refine round_end (k + 1) ⟨by grind, upto hg ?_⟩ (by repeat' (first | exact rfl | exact trivial | exact congrArg (fun z => some (AV.i64 z)) (wrap_succ (show k < n from by grind) hlen) | refine And.intro ?_ ?_)) (by grind) | skip
  all_goals first | assumption | ((try clear hg); (try simp only [Int.toNat_natCast, Bool.cond_true_left, Bool.cond_false_right, Bool.or_eq_true, Bool.and_eq_true, Bool.or_eq_false_iff, Bool.and_eq_false_iff, beq_eq_false_iff_ne, Bool.not_eq_true', Bool.not_eq_false', decide_eq_true_eq, decide_eq_false_iff_not, beq_iff_eq, isB] at *); (try simp only [bif_if] at *); ((skip) <;> grind))
theorem c_ContainsBool (m : Nat → Bool) (n : Nat) (b : Bool) (hlen : n ≤ maxLen) : ACallIs B.P 65 [.ro 1 n (fun i => [.bool (m i)]), .bool b] (.bool (anyB (isB m b) n)) := by
  refine ACallIs.enter B _ _ Tryd.func65 rfl rfl Tryd.ntmps65 Tryd.results65 rfl fun hreal => ?_
  clear hreal
  repeat' (first
    | refine AWp.seq ?_ | refine AWp.block ?_ | refine AWp.skip ?_ | refine AWp.exit ?_
    | refine AWp.region ?_ | refine AWp.draw mixed (by kernel_rfl) ?_
    | refine AWp.cond (And.intro (fun h => ?_) (fun h => ?_))
    | refine AWp.ret ⟨Or.inl rfl, rfl, ?_⟩
    | refine CallX.pure (c_IndexBool m n b hlen) rfl rfl rfl ?_ | refine CallK.intro (fun _ => c_IndexBool m n b hlen) ?_
    | exact trivial | refine And.intro ?_ ?_ | intro _)
  exact tupB (idxF_any _ _)
end Go.Proofs.YtgkdmdfjfepcdaaDoor

/- Contract of the document's makers. Condition: sizes. -/
namespace Go.Proofs.YtgkdmdfjfepcdaaDoor
open Go Go.Abs Go.RowKit

/-- The values made by the first operands, instructions, blocks. -/
def mkO (x : Ins) (j : Nat) : List Int := ((x.Operands.take j).filter (fun o => o.Kind == 2)).map (·.Value)
def mkI (b : Blk) (k : Nat) : List Int := (b.Instrs.take k).flatMap (fun x => mkO x x.Operands.length)
def mkB (bs : List Blk) (k : Nat) : List Int := (bs.take k).flatMap (fun b => b.Params ++ mkI b b.Instrs.length)
def makL (f : Fun) : List Int := mkB f.Blocks f.Blocks.length
theorem mkO_hit {x : Ins} {j : Nat} (h : j < x.Operands.length) (hk : ((x.Operands.getD j default).Kind == 2) = true) : mkO x (j + 1) = mkO x j ++ [(x.Operands.getD j default).Value] := by
  unfold mkO; rw [take_succ_getD h, List.filter_append, List.map_append]; simp only [List.filter_cons, hk, if_true, List.filter_nil, List.map_cons, List.map_nil]
theorem mkO_miss {x : Ins} {j : Nat} (h : j < x.Operands.length) (hk : ((x.Operands.getD j default).Kind == 2) = false) : mkO x (j + 1) = mkO x j := by
  unfold mkO; rw [take_succ_getD h, List.filter_append, List.map_append]; simp only [List.filter_cons, hk, if_false, List.filter_nil, List.map_nil, List.append_nil, Bool.false_eq_true]
theorem mkI_succ {b : Blk} {k : Nat} (h : k < b.Instrs.length) : mkI b (k + 1) = mkI b k ++ mkO (b.Instrs.getD k default) (b.Instrs.getD k default).Operands.length := by
  unfold mkI; rw [take_succ_getD h, List.flatMap_append]; simp
theorem mkB_succ {bs : List Blk} {k : Nat} (h : k < bs.length) : mkB bs (k + 1) = mkB bs k ++ ((bs.getD k default).Params ++ mkI (bs.getD k default) (bs.getD k default).Instrs.length) := by
  unfold mkB; rw [take_succ_getD h, List.flatMap_append]; simp
theorem snoc_get {L : List Int} {v : Int} {i : Nat} (hi : i < L.length + 1) : (if i < L.length then intC (L.getD i default) else intC v) = intC ((L ++ [v]).getD i default) := by
  by_cases h : i < L.length
  · rw [if_pos h, List.getD_eq_getElem?_getD, List.getD_eq_getElem?_getD, List.getElem?_append_left h]
  · obtain rfl : i = L.length := by omega
    rw [if_neg h, List.getD_eq_getElem?_getD]; simp
end Go.Proofs.YtgkdmdfjfepcdaaDoor

/- Contract of the document's makers. Condition: sizes. -/
namespace Go.Proofs.YtgkdmdfjfepcdaaDoor
open Go Go.Abs Go.RowKit

/-- What a function's sizes are when they may be. -/
structure SizOk (f : Fun) : Prop where
  blocks : 1 ≤ f.Blocks.length ∧ f.Blocks.length ≤ 16
  values : f.Values.length ≤ 160
  params : ∀ k, k < f.Blocks.length → (f.Blocks.getD k default).Params.length ≤ 5
  instrs : ∀ k, k < f.Blocks.length → (f.Blocks.getD k default).Instrs.length ≤ 40
  edges : ∀ k, k < f.Blocks.length → (f.Blocks.getD k default).Edges.length ≤ 3
  ops : ∀ k j, k < f.Blocks.length → j < (f.Blocks.getD k default).Instrs.length → ((f.Blocks.getD k default).Instrs.getD j default).Operands.length ≤ 6
  spo : ∀ k j, k < f.Blocks.length → j < (f.Blocks.getD k default).Instrs.length → ((f.Blocks.getD k default).Instrs.getD j default).Spoils.length ≤ 20
theorem sizOk_of {f : Fun} (h : sizF f = 0) : SizOk f := by
  have h1 : ¬ (f.Blocks.length < 1 ∨ 16 < f.Blocks.length ∨ 160 < f.Values.length) := fun c => by rw [sizF_1 c] at h; cases h
  rw [sizF_2 h1 rfl] at h
  have hz := firstF_zero h
  have h2 : ∀ k, k < f.Blocks.length → ¬ (5 < (f.Blocks.getD k default).Params.length ∨ 40 < (f.Blocks.getD k default).Instrs.length ∨ 3 < (f.Blocks.getD k default).Edges.length ∨ 160 < allF f.Blocks (k + 1)) := fun k hk c => by have := hz k hk; rw [sizG_1 c] at this; cases this
  have h3 : ∀ k, k < f.Blocks.length → ∀ j, j < (f.Blocks.getD k default).Instrs.length → sizI (f.Blocks.getD k default) j = 0 := fun k hk => by
    have := hz k hk
    rw [sizG_2 (h2 k hk) rfl] at this
    exact firstF_zero this
  have h4 : ∀ k j, k < f.Blocks.length → j < (f.Blocks.getD k default).Instrs.length → ¬ (6 < ((f.Blocks.getD k default).Instrs.getD j default).Operands.length ∨ 20 < ((f.Blocks.getD k default).Instrs.getD j default).Spoils.length) := fun k j hk hj c => by
    have := h3 k hk j hj
    unfold sizI at this
    rw [if_pos c] at this; cases this
  exact ⟨by omega, by omega, fun k hk => by have := h2 k hk; omega, fun k hk => by have := h2 k hk; omega, fun k hk => by have := h2 k hk; omega, fun k j hk hj => by have := h4 k j hk hj; omega, fun k j hk hj => by have := h4 k j hk hj; omega⟩
theorem mkO_len (x : Ins) (j : Nat) : (mkO x j).length ≤ j := by
  unfold mkO; rw [List.length_map]
  exact Nat.le_trans (List.length_filter_le _ _) (by rw [List.length_take]; omega)
theorem mkI_len {b : Blk} (h : ∀ j, j < b.Instrs.length → (b.Instrs.getD j default).Operands.length ≤ 6) : ∀ k, k ≤ b.Instrs.length → (mkI b k).length ≤ 6 * k
  | 0, _ => by unfold mkI; simp
  | k + 1, hk => by
    rw [mkI_succ (by omega), List.length_append]
    have h1 := mkI_len h k (by omega)
    have h2 := mkO_len (b.Instrs.getD k default) (b.Instrs.getD k default).Operands.length
    have h3 := h k (by omega)
    omega
theorem mkB_len {f : Fun} (h : SizOk f) : ∀ k, k ≤ f.Blocks.length → (mkB f.Blocks k).length ≤ 245 * k
  | 0, _ => by unfold mkB; simp
  | k + 1, hk => by
    rw [mkB_succ (by omega), List.length_append, List.length_append]
    have h1 := mkB_len h k (by omega)
    have h2 := mkI_len (h.ops k · (by omega)) _ (Nat.le_refl _)
    have h3 := h.params k (by omega)
    have h4 := h.instrs k (by omega)
    omega
end Go.Proofs.YtgkdmdfjfepcdaaDoor

/- Contract of the document's makers. Condition: the sizes may be. -/
namespace Go.Proofs.YtgkdmdfjfepcdaaDoor
open Go Go.Abs Go.RowKit

@[reducible] def rowI (L : List Int) : HO := .row 3 1 L.length (fun i => intC (L.getD i default))
theorem len_snoc (L : List Int) (v : Int) : L.length + 1 = (L ++ [v]).length := by simp
theorem snoc_row {L : List Int} {v : Int} {i : Nat} (hi : i < (L ++ [v]).length) : intC ((L ++ [v]).getD i default) = if i < L.length then intC (L.getD i default) else ([[AV.val (Value.int IntKind.i64 v)]].getD (i - L.length) []) := by
  by_cases h : i < L.length
  · rw [if_pos h, List.getD_eq_getElem?_getD, List.getD_eq_getElem?_getD, List.getElem?_append_left h]
  · have e : i = L.length := by have := len_snoc L v; omega
    subst e
    rw [if_neg h, Nat.sub_self, List.getD_eq_getElem?_getD]; simp
set_option maxHeartbeats 1000000 in
theorem c_makers (f : Fun) (hz : SizOk f) : ACallIs B.P 54 [f.av] (ints (makL f)) := by
  have hlen : f.Blocks.length ≤ maxLen := by have := hz.blocks; unfold maxLen; omega
  refine ACallIs.enter B _ _ Tryd.func54 rfl rfl Tryd.ntmps54 Tryd.results54 rfl fun hreal => ?_
  clear hreal
  refine AWp.seq (AWp.region ?_)
  intro _
  refine AWp.freezeObj 1 rfl rfl ?_
  refine AWp.seq (AWp.region ?_)
  intro _
  refine AWp.adopt 3 3 3 1 rfl rfl rfl ?_
  refine AWp.seq (AWp.seq (AWp.region ?_))
  intro _
  refine AWp.block (AWp.loop (fun k : Nat => ⟨[(1, .ptr f.cells), (3, .sl 3 (mkB f.Blocks k).length), (4, .i64 k)], [(3, rowI (mkB f.Blocks k))]⟩) (fun k => k ≤ f.Blocks.length) (fun k => f.Blocks.length - k) 0 (Nat.zero_le _) ?_ ?_)
  · refine And.intro ?_ ?_
    · repeat' (first | exact rfl | exact trivial | refine And.intro ?_ ?_)
    · exact And.intro ⟨_, _, rfl, rfl, fun i hi => absurd hi (by simp [mkB])⟩ (And.intro trivial trivial)
  intro k hk
  refine AWp.seq (AWp.seq (AWp.region ?_))
  intro _
  refine AWp.cond (And.intro (fun h => ?_) (fun h => ?_))
  · refine AWp.skip ?_
    have hk' : k < f.Blocks.length := by have := of_decide_eq_true h; omega
    have hp := hz.params k hk'
    have hB := mkB_len hz k (by omega)
    have hk16 := hz.blocks.2
    refine AWp.seq (AWp.block (AWp.seq (AWp.region ?_)))
    refine And.intro (fun _ => And.intro (Int.natCast_nonneg _) (Int.ofNat_lt.2 hk')) ?_
    intro _
    refine AWp.freezeObj 5 rfl rfl ?_
    refine AWp.seq (AWp.seq (AWp.region ?_))
    intro _
    refine AWp.block (AWp.loop (fun j : Nat => ⟨[(1, .ptr f.cells), (3, .sl 3 (mkB f.Blocks k ++ (f.Blocks.getD k default).Params.take j).length), (4, .i64 k), (5, .ptr (f.Blocks.getD k default).cells), (6, .i64 j)], [(3, rowI (mkB f.Blocks k ++ (f.Blocks.getD k default).Params.take j))]⟩) (fun j => j ≤ (f.Blocks.getD k default).Params.length) (fun j => (f.Blocks.getD k default).Params.length - j) 0 (Nat.zero_le _) ?_ ?_)
    · skip
      rw [show mkB f.Blocks k ++ (f.Blocks.getD k default).Params.take 0 = mkB f.Blocks k by simp]
      refine And.intro ?_ ?_
      · repeat' (first | exact rfl | exact trivial | refine And.intro ?_ ?_)
      · exact And.intro ⟨_, _, rfl, rfl, fun i hi => rfl⟩ (And.intro trivial trivial)
    · intro j hj
      have hpl : (f.Blocks.getD k default).Params.length ≤ maxLen := by unfold maxLen; omega
      refine AWp.seq (AWp.seq (AWp.region ?_))
      intro _
      refine AWp.cond (And.intro (fun h => ?_) (fun h => ?_))
      · refine AWp.skip ?_
        have hj' : j < (f.Blocks.getD k default).Params.length := by have := of_decide_eq_true h; omega
        have hL : (mkB f.Blocks k ++ (f.Blocks.getD k default).Params.take j).length ≤ 245 * 16 + 5 := by rw [List.length_append, List.length_take]; omega
        have hS : mkB f.Blocks k ++ (f.Blocks.getD k default).Params.take (j + 1) = (mkB f.Blocks k ++ (f.Blocks.getD k default).Params.take j) ++ [(f.Blocks.getD k default).Params.getD j default] := by rw [take_succ_getD hj', List.append_assoc]
        refine AWp.seq (AWp.block (AWp.region ?_))
        refine And.intro (fun _ => And.intro (Int.natCast_nonneg _) (Int.ofNat_lt.2 hj')) ?_
        refine And.intro (Nat.le_refl _) (And.intro (fun i hi => ?_) (And.intro rfl (And.intro (by omega) ?_)))
        · have e : i = 0 := by omega
          subst e; rfl
        intro _
        refine AWp.rename 35 3 rfl rfl ?_
        refine AWp.region ?_
        intro _
        refine round_end (j + 1) hj' ?_ (by omega)
        rw [hS]
        refine And.intro ?_ ?_
        · repeat' (first | exact rfl | exact trivial | exact congrArg (fun z => some (AV.i64 z)) (wrap_succ hj' hpl) | refine And.intro ?_ ?_)
          exact congrArg (fun n => some (AV.sl 3 n)) (len_snoc _ _)
        · exact And.intro ⟨_, _, rfl, len_snoc _ _, fun i hi => snoc_row hi⟩ (And.intro trivial trivial)
      have hj3 : ¬ (j : Int) < (f.Blocks.getD k default).Params.length := of_decide_eq_false h
      obtain rfl : j = (f.Blocks.getD k default).Params.length := by omega
      refine AWp.exit ?_
      refine AWp.seq (AWp.region ?_)
      intro _
      have hin := hz.instrs k hk'
      have hil : (f.Blocks.getD k default).Instrs.length ≤ maxLen := by unfold maxLen; omega
      refine AWp.block (AWp.loop (fun j : Nat => ⟨[(1, .ptr f.cells), (3, .sl 3 (mkB f.Blocks k ++ ((f.Blocks.getD k default).Params ++ mkI (f.Blocks.getD k default) j)).length), (4, .i64 k), (5, .ptr (f.Blocks.getD k default).cells), (7, .i64 j)], [(3, rowI (mkB f.Blocks k ++ ((f.Blocks.getD k default).Params ++ mkI (f.Blocks.getD k default) j)))]⟩) (fun j => j ≤ (f.Blocks.getD k default).Instrs.length) (fun j => (f.Blocks.getD k default).Instrs.length - j) 0 (Nat.zero_le _) ?_ ?_)
      · rw [show mkB f.Blocks k ++ ((f.Blocks.getD k default).Params ++ mkI (f.Blocks.getD k default) 0) = mkB f.Blocks k ++ (f.Blocks.getD k default).Params.take (f.Blocks.getD k default).Params.length by simp [mkI]]
        refine And.intro ?_ ?_
        · repeat' (first | exact rfl | exact trivial | refine And.intro ?_ ?_)
        · exact And.intro ⟨_, _, rfl, rfl, fun i hi => rfl⟩ (And.intro trivial trivial)
      clear h hj hj3
      intro j hj
      refine AWp.seq (AWp.seq (AWp.region ?_))
      intro _
      refine AWp.cond (And.intro (fun h => ?_) (fun h => ?_))
      · refine AWp.skip ?_
        have hj' : j < (f.Blocks.getD k default).Instrs.length := by have := of_decide_eq_true h; omega
        have hop := hz.ops k j hk' hj'
        have hol : ((f.Blocks.getD k default).Instrs.getD j default).Operands.length ≤ maxLen := by unfold maxLen; omega
        have hI := mkI_len (fun j hj => hz.ops k j hk' hj) j (by omega)
        refine AWp.seq (AWp.block (AWp.seq (AWp.region ?_)))
        intro _
        refine AWp.block (AWp.loop (fun i : Nat => ⟨[(1, .ptr f.cells), (3, .sl 3 (mkB f.Blocks k ++ ((f.Blocks.getD k default).Params ++ mkI (f.Blocks.getD k default) j) ++ mkO ((f.Blocks.getD k default).Instrs.getD j default) i).length), (4, .i64 k), (5, .ptr (f.Blocks.getD k default).cells), (7, .i64 j), (8, .i64 i)], [(3, rowI (mkB f.Blocks k ++ ((f.Blocks.getD k default).Params ++ mkI (f.Blocks.getD k default) j) ++ mkO ((f.Blocks.getD k default).Instrs.getD j default) i))]⟩) (fun i => i ≤ ((f.Blocks.getD k default).Instrs.getD j default).Operands.length) (fun i => ((f.Blocks.getD k default).Instrs.getD j default).Operands.length - i) 0 (Nat.zero_le _) ?_ ?_)
        · rw [show mkB f.Blocks k ++ ((f.Blocks.getD k default).Params ++ mkI (f.Blocks.getD k default) j) ++ mkO ((f.Blocks.getD k default).Instrs.getD j default) 0 = mkB f.Blocks k ++ ((f.Blocks.getD k default).Params ++ mkI (f.Blocks.getD k default) j) by simp [mkO]]
          refine And.intro ?_ ?_
          · repeat' (first | exact rfl | exact trivial | refine And.intro ?_ ?_)
          · exact And.intro ⟨_, _, rfl, rfl, fun i hi => rfl⟩ (And.intro trivial trivial)
        intro i hi
        refine AWp.seq (AWp.seq (AWp.region ?_))
        refine And.intro (fun _ => And.intro (Int.natCast_nonneg _) (Int.ofNat_lt.2 hj')) ?_
        intro _
        refine AWp.cond (And.intro (fun h => ?_) (fun h => ?_))
        · refine AWp.skip ?_
          have hi' : i < ((f.Blocks.getD k default).Instrs.getD j default).Operands.length := Int.ofNat_lt.1 (of_decide_eq_true h)
          have hO := mkO_len ((f.Blocks.getD k default).Instrs.getD j default) i
          have hL : (mkB f.Blocks k ++ ((f.Blocks.getD k default).Params ++ mkI (f.Blocks.getD k default) j) ++ mkO ((f.Blocks.getD k default).Instrs.getD j default) i).length ≤ 10000 := by rw [List.length_append, List.length_append, List.length_append]; omega
          refine AWp.seq (AWp.block (AWp.seq (AWp.region ?_)))
          refine And.intro (fun _ => And.intro (Int.natCast_nonneg _) (Int.ofNat_lt.2 hj')) ?_
          refine And.intro (fun _ => And.intro (Int.natCast_nonneg _) (Int.ofNat_lt.2 hi')) ?_
          intro _
          refine AWp.cond (And.intro (fun hc => ?_) (fun hc => ?_))
          · have hS : mkO ((f.Blocks.getD k default).Instrs.getD j default) (i + 1) = mkO ((f.Blocks.getD k default).Instrs.getD j default) i ++ [(((f.Blocks.getD k default).Instrs.getD j default).Operands.getD i default).Value] := mkO_hit hi' hc
            refine AWp.region ?_
            refine And.intro (fun _ => And.intro (Int.natCast_nonneg _) (Int.ofNat_lt.2 hj')) ?_
            refine And.intro (fun _ => And.intro (Int.natCast_nonneg _) (Int.ofNat_lt.2 hi')) ?_
            refine And.intro (Nat.le_refl _) (And.intro (fun a ha => ?_) (And.intro rfl (And.intro (by omega) ?_)))
            · have e : a = 0 := by omega
              subst e; rfl
            intro _
            refine AWp.rename 77 3 rfl rfl ?_
            refine AWp.region ?_
            intro _
            refine round_end (i + 1) hi' ?_ (by omega)
            rw [hS, ← List.append_assoc]
            refine And.intro ?_ ?_
            · repeat' (first | exact rfl | exact trivial | exact congrArg (fun z => some (AV.i64 z)) (wrap_succ hi' hol) | refine And.intro ?_ ?_)
              exact congrArg (fun n => some (AV.sl 3 n)) (len_snoc _ _)
            · exact And.intro ⟨_, _, rfl, len_snoc _ _, fun i hi => snoc_row hi⟩ (And.intro trivial trivial)
          · have hS : mkO ((f.Blocks.getD k default).Instrs.getD j default) (i + 1) = mkO ((f.Blocks.getD k default).Instrs.getD j default) i := mkO_miss hi' hc
            refine AWp.skip ?_
            refine AWp.region ?_
            intro _
            refine round_end (i + 1) hi' ?_ (by omega)
            rw [hS]
            refine And.intro ?_ ?_
            · repeat' (first | exact rfl | exact trivial | exact congrArg (fun z => some (AV.i64 z)) (wrap_succ hi' hol) | refine And.intro ?_ ?_)
            · exact And.intro ⟨_, _, rfl, rfl, fun i hi => rfl⟩ (And.intro trivial trivial)
        have hi3 : ¬ (i : Int) < ((f.Blocks.getD k default).Instrs.getD j default).Operands.length := of_decide_eq_false h
        obtain rfl : i = ((f.Blocks.getD k default).Instrs.getD j default).Operands.length := by omega
        refine AWp.exit ?_
        refine AWp.region ?_
        intro _
        refine round_end (j + 1) hj' ?_ (by omega)
        rw [mkI_succ hj', ← List.append_assoc, ← List.append_assoc, List.append_assoc (mkB f.Blocks k)]
        refine And.intro ?_ ?_
        · repeat' (first | exact rfl | exact trivial | exact congrArg (fun z => some (AV.i64 z)) (wrap_succ hj' hil) | refine And.intro ?_ ?_)
        · exact And.intro ⟨_, _, rfl, rfl, fun i hi => rfl⟩ (And.intro trivial trivial)
      have hj3 : ¬ (j : Int) < (f.Blocks.getD k default).Instrs.length := of_decide_eq_false h
      obtain rfl : j = (f.Blocks.getD k default).Instrs.length := by omega
      refine AWp.exit ?_
      refine AWp.region ?_
      intro _
      refine round_end (k + 1) hk' ?_ (by omega)
      rw [mkB_succ hk']
      refine And.intro ?_ ?_
      · repeat' (first | exact rfl | exact trivial | exact congrArg (fun z => some (AV.i64 z)) (wrap_succ hk' hlen) | refine And.intro ?_ ?_)
      · exact And.intro ⟨_, _, rfl, rfl, fun i hi => rfl⟩ (And.intro trivial trivial)
  have hk3 : ¬ (k : Int) < f.Blocks.length := of_decide_eq_false h
  obtain rfl : k = f.Blocks.length := by omega
  refine AWp.exit ?_
  refine AWp.seq (AWp.region ?_)
  intro _
  refine AWp.freeze 3 (fun i => intC ((makL f).getD i default)) rfl (fun i hi => rfl) ?_
  refine AWp.ret ⟨Or.inl rfl, rfl, ?_⟩
  intro _
  rfl
end Go.Proofs.YtgkdmdfjfepcdaaDoor

/- Contract of the closure in shape.once. Condition: none. -/
namespace Go.Proofs.YtgkdmdfjfepcdaaDoor
open Go Go.Abs Go.RowKit

def oneI (f : Fun) (v : Int) (m : Nat → Bool) : Int := if valB f v = false then 2 else if m v.toNat = true then 7 else 0
def oneM (f : Fun) (v : Int) (m : Nat → Bool) (i : Nat) : Bool := m i || (valB f v && decide (i = v.toNat))
@[reducible] def rowB (n : Nat) (m : Nat → Bool) : HO := .row 4 1 n (fun i => [.bool (m i)])
set_option maxHeartbeats 1000000 in
theorem m_once1 (f : Fun) (v : Int) (m : Nat → Bool) : ACallM B.P 64 ⟨[.i64 v, .ptr f.cells, .obj 1002 0], [(1002, .cells [.sl 1001 f.Values.length]), (1001, rowB f.Values.length m)], .i64 (oneI f v m), [(1002, .cells [.sl 1001 f.Values.length]), (1001, rowB f.Values.length (oneM f v m))]⟩ := by
  have hv : valB f v = true → 0 ≤ v ∧ v < f.Values.length := idx_ok
  refine ACallM.enter B _ _ Tryd.func64 rfl rfl Tryd.ntmps64 Tryd.results64 rfl ?_ fun hreal => ?_
  · refine And.intro ?_ (And.intro ?_ ?_)
    all_goals repeat' (first | exact rfl | exact trivial | refine And.intro ?_ ?_)
  clear hreal
  repeat' (first
    | refine AWp.seq ?_ | refine AWp.block ?_ | refine AWp.skip ?_ | refine AWp.exit ?_
    | refine AWp.region ?_ | refine AWp.draw mixed (by kernel_rfl) ?_
    | refine AWp.cond (And.intro (fun h => ?_) (fun h => ?_))
    | refine AWp.ret ⟨Or.inl rfl, rfl, ?_⟩
    | refine CallX.pure (c_value f v) rfl rfl rfl ?_ | refine CallK.intro (fun _ => c_value f v) ?_
    | exact trivial | refine And.intro ?_ ?_ | intro _)
  all_goals first | exact (hv (by simpa using ‹(!valB f v) = false›)).1 | exact (hv (by simpa using ‹(!valB f v) = false›)).2 | (have := hv (by simpa using ‹(!valB f v) = false›); omega) | (refine AWp.ret (And.intro (Or.inl rfl) ?_); intro _; refine And.intro ?_ (And.intro trivial (And.intro ?_ (And.intro (And.intro rfl trivial) (And.intro ?_ (And.intro trivial trivial))))))
  all_goals first | exact rfl | exact tupI (by unfold oneI; grind) | refine ⟨_, _, rfl, rfl, fun i hi => ?_⟩
  · show [AV.bool (oneM f v m i)] = [AV.bool (m i)]
    rw [show oneM f v m i = m i by unfold oneM; grind]
  · show [AV.bool (oneM f v m i)] = [AV.bool (m i)]
    rw [show oneM f v m i = m i by unfold oneM; grind]
  · show [AV.bool (oneM f v m i)] = if i = v.toNat then [AV.bool true] else [AV.bool (m i)]
    by_cases e : i = v.toNat
    · rw [if_pos e, show oneM f v m i = true by unfold oneM; grind]
    · rw [if_neg e, show oneM f v m i = m i by unfold oneM; grind]
end Go.Proofs.YtgkdmdfjfepcdaaDoor

/- Plain: each value made just once. Condition: none. -/
namespace Go.Proofs.YtgkdmdfjfepcdaaDoor
open Go Go.Abs Go.RowKit

def bad (f : Fun) (P : List Int) (v : Int) : Int := if valB f v = false then 2 else if v ∈ P then 7 else 0
def OkP (f : Fun) (P : List Int) : Prop := ∀ j, j < P.length → bad f (P.take j) (P.getD j default) = 0
def badG (f : Fun) (L : List Int) (j : Nat) : Int := bad f (L.take j) (L.getD j default)
def onceF (f : Fun) : Int :=
  if firstF (badG f (makL f)) (makL f).length ≠ 0 then firstF (badG f (makL f)) (makL f).length
  else if (makL f).length < f.Values.length then 6 else 0
def memP (P : List Int) (i : Nat) : Bool := decide ((i : Int) ∈ P)
theorem OkP.nil (f : Fun) : OkP f [] := fun j hj => absurd hj (by simp)
theorem getD_app_left {α : Type} {P R : List α} {j : Nat} {d : α} (h : j < P.length) : (P ++ R).getD j d = P.getD j d := by
  rw [List.getD_eq_getElem?_getD, List.getD_eq_getElem?_getD, List.getElem?_append_left h]
theorem getD_app_at {α : Type} {P R : List α} {v d : α} : (P ++ v :: R).getD P.length d = v := by
  rw [List.getD_eq_getElem?_getD, List.getElem?_append_right (Nat.le_refl _)]; simp
theorem OkP.snoc {f : Fun} {P : List Int} {v : Int} (h : OkP f P) (hv : bad f P v = 0) : OkP f (P ++ [v]) := fun j hj => by
  rw [List.length_append] at hj
  by_cases e : j < P.length
  · rw [getD_app_left e, List.take_append_of_le_length (by omega)]; exact h j e
  · have : j = P.length := by simp at hj; omega
    subst this
    rw [getD_app_at, List.take_append_of_le_length (Nat.le_refl _), List.take_length]; exact hv
theorem once_hit {f : Fun} {P : List Int} {v : Int} (hp : P ++ [v] <+: makL f) (h : OkP f P) (hv : bad f P v ≠ 0) : onceF f = bad f P v := by
  obtain ⟨R, hR⟩ := hp
  have e : makL f = P ++ v :: R := by rw [← hR]; simp
  have hb : badG f (makL f) P.length = bad f P v := by unfold badG; rw [e, getD_app_at, List.take_append_of_le_length (Nat.le_refl _), List.take_length]
  have : firstF (badG f (makL f)) (makL f).length = bad f P v := by
    rw [← hb]
    refine firstF_hit (by rw [e]; simp) (fun j hj => ?_) (by rw [hb]; exact hv)
    unfold badG; rw [e, getD_app_left hj, List.take_append_of_le_length (by omega)]; exact h j hj
  unfold onceF; rw [this, if_pos hv]
theorem okP_zero {f : Fun} (h : OkP f (makL f)) : firstF (badG f (makL f)) (makL f).length = 0 := firstF_none fun j hj => h j hj
theorem mkB_pre {bs : List Blk} {k : Nat} (h : k ≤ bs.length) : mkB bs k <+: mkB bs bs.length := by
  unfold mkB; rw [List.take_length]
  conv => rhs; rw [← List.take_append_drop k bs]
  rw [List.flatMap_append]; exact List.prefix_append _ _
theorem mkI_pre {b : Blk} {k : Nat} (h : k ≤ b.Instrs.length) : mkI b k <+: mkI b b.Instrs.length := by
  unfold mkI; rw [List.take_length]
  conv => rhs; rw [← List.take_append_drop k b.Instrs]
  rw [List.flatMap_append]; exact List.prefix_append _ _
theorem mkO_pre {x : Ins} {k : Nat} (h : k ≤ x.Operands.length) : mkO x k <+: mkO x x.Operands.length := by
  unfold mkO; rw [List.take_length]
  conv => rhs; rw [← List.take_append_drop k x.Operands]
  rw [List.filter_append, List.map_append]; exact List.prefix_append _ _
theorem pre_app {P Q R : List Int} (h : Q <+: R) : P ++ Q <+: P ++ R := by obtain ⟨t, rfl⟩ := h; exact ⟨t, by simp⟩
theorem pre_1 {f : Fun} {k j : Nat} (hk : k < f.Blocks.length) : mkB f.Blocks k ++ (f.Blocks.getD k default).Params.take j <+: makL f := by
  refine List.IsPrefix.trans ?_ (mkB_pre (bs := f.Blocks) (k := k + 1) hk)
  rw [mkB_succ hk]
  exact pre_app ((List.take_prefix _ _).trans (List.prefix_append _ _))
theorem pre_2 {f : Fun} {k j : Nat} (hk : k < f.Blocks.length) (hj : j ≤ (f.Blocks.getD k default).Instrs.length) : mkB f.Blocks k ++ ((f.Blocks.getD k default).Params ++ mkI (f.Blocks.getD k default) j) <+: makL f := by
  refine List.IsPrefix.trans ?_ (mkB_pre (bs := f.Blocks) (k := k + 1) hk)
  rw [mkB_succ hk]
  exact pre_app (pre_app (mkI_pre hj))
theorem pre_3 {f : Fun} {k j i : Nat} (hk : k < f.Blocks.length) (hj : j < (f.Blocks.getD k default).Instrs.length) (hi : i ≤ ((f.Blocks.getD k default).Instrs.getD j default).Operands.length) :
    mkB f.Blocks k ++ ((f.Blocks.getD k default).Params ++ mkI (f.Blocks.getD k default) j) ++ mkO ((f.Blocks.getD k default).Instrs.getD j default) i <+: makL f := by
  refine List.IsPrefix.trans ?_ (pre_2 hk (j := j + 1) hj)
  rw [mkI_succ hj, List.append_assoc, List.append_assoc, ]
  exact pre_app (pre_app (pre_app (mkO_pre hi)))
theorem oneI_bad {f : Fun} {P : List Int} {v : Int} : oneI f v (memP P) = bad f P v := by
  unfold oneI bad
  by_cases h : valB f v = false
  · rw [if_pos h, if_pos h]
  · rw [if_neg h, if_neg h]
    have h2 := idx_ok (f := f) (v := v) (by simpa using h)
    have e : ((v.toNat : Nat) : Int) = v := by omega
    unfold memP; rw [e]; simp
theorem oneM_snoc {f : Fun} {P : List Int} {v : Int} (h : bad f P v = 0) (i : Nat) : oneM f v (memP P) i = memP (P ++ [v]) i := by
  have hv : valB f v = true := by
    unfold bad at h
    split at h
    · cases h
    · rename_i h2; simpa using h2
  have h2 := idx_ok (f := f) (v := v) hv
  unfold oneM memP
  rw [hv, Bool.true_and, Bool.eq_iff_iff]
  simp only [Bool.or_eq_true, decide_eq_true_eq, List.mem_append, List.mem_singleton]
  constructor
  · rintro (h | h)
    · exact .inl h
    · exact .inr (by omega)
  · rintro (h | h)
    · exact .inl h
    · exact .inr (by omega)
/-- Pigeonhole: as many as there are. -/
theorem nodup_of {f : Fun} {P : List Int} (h : OkP f P) : P.Nodup ∧ ∀ v ∈ P, 0 ≤ v ∧ v < f.Values.length := by
  constructor
  · rw [List.nodup_iff_pairwise_ne, List.pairwise_iff_getElem]
    intro i j hi hj hij e
    have := h j hj
    unfold bad at this
    split at this
    · cases this
    · split at this
      · cases this
      · rename_i h3
        apply h3
        rw [List.getD_eq_getElem?_getD, List.getElem?_eq_getElem hj, Option.getD_some, ← e]
        exact List.mem_take_iff_getElem.2 ⟨i, by omega, rfl⟩
  · intro v hv
    obtain ⟨j, hj, rfl⟩ := List.getElem_of_mem hv
    have := h j hj
    unfold bad at this
    split at this
    · cases this
    · rename_i h2
      have := idx_ok (f := f) (v := P.getD j default) (by simpa using h2)
      rwa [List.getD_eq_getElem?_getD, List.getElem?_eq_getElem hj, Option.getD_some] at this
theorem pig : ∀ (n : Nat) (P : List Int), P.Nodup → (∀ v ∈ P, 0 ≤ v ∧ v < (n : Int)) → P.length ≤ n ∧ (P.length = n → ∀ i : Nat, i < n → (i : Int) ∈ P)
  | 0, P, _, h => by
    have : P = [] := List.eq_nil_iff_forall_not_mem.2 fun v hv => by have := h v hv; omega
    subst this; exact ⟨Nat.le_refl _, fun _ i hi => absurd hi (by omega)⟩
  | n + 1, P, hn, h => by
    have ih := pig n (P.erase (n : Int)) (hn.erase _) (fun v hv => by
      have h1 := h v (List.mem_of_mem_erase hv)
      have h2 : v ≠ (n : Int) := fun e => by subst e; exact (List.Nodup.not_mem_erase hn) hv
      omega)
    by_cases hm : (n : Int) ∈ P
    · have hl := List.length_erase_of_mem hm
      have hp : 0 < P.length := List.length_pos_of_mem hm
      refine ⟨by omega, fun e i hi => ?_⟩
      by_cases e2 : i = n
      · subst e2; exact hm
      · exact List.mem_of_mem_erase (ih.2 (by omega) i (by omega))
    · rw [List.erase_of_not_mem hm] at ih
      exact ⟨by omega, fun e => by omega⟩
theorem anyFalse {f : Fun} {P : List Int} (h : OkP f P) : anyB (fun i => false == memP P i) f.Values.length = decide (P.length < f.Values.length) := by
  obtain ⟨h1, h2⟩ := nodup_of h
  obtain ⟨h3, h4⟩ := pig _ P h1 h2
  by_cases e : P.length < f.Values.length
  · rw [decide_eq_true e]
    apply Classical.byContradiction
    intro hne
    have hall : ∀ i, i < f.Values.length → (i : Int) ∈ P := fun i hi => Classical.byContradiction fun hm => hne (anyB_hit (k := i) hi (by unfold memP; simpa using hm))
    have : f.Values.length ≤ P.length := by
      have hs : ((List.range f.Values.length).map (fun i : Nat => (i : Int))).length ≤ P.length := by
        apply List.Nodup.length_le_of_subset
        · rw [List.nodup_iff_pairwise_ne, List.pairwise_map]
          exact (List.pairwise_lt_range).imp fun {a b} hab => by omega
        · intro v hv
          obtain ⟨i, hi, rfl⟩ := List.mem_map.1 hv
          exact hall i (List.mem_range.1 hi)
      simpa using hs
    omega
  · rw [decide_eq_false e]
    refine anyB_none fun i hi => ?_
    have := h4 (by omega) i hi
    unfold memP; simpa using this
end Go.Proofs.YtgkdmdfjfepcdaaDoor

/- Contract of shape.once. Condition: the sizes may be. -/
namespace Go.Proofs.YtgkdmdfjfepcdaaDoor
open Go Go.Abs Go.RowKit

theorem bad_oneI {f : Fun} {P : List Int} {v : Int} (h : (oneI f v (memP P) != 0) = true) : bad f P v ≠ 0 := by rw [oneI_bad] at h; simpa using h
theorem bad_zero {f : Fun} {P : List Int} {v : Int} (h : (oneI f v (memP P) != 0) = false) : bad f P v = 0 := by rw [oneI_bad] at h; simpa using h
set_option maxHeartbeats 1000000 in
theorem c_once (f : Fun) (hz : SizOk f) : ACallIs B.P 39 [f.av] (.i64 (onceF f)) := by
  have hlen : f.Blocks.length ≤ maxLen := by have := hz.blocks; unfold maxLen; omega
  have hvl := hz.values
  refine ACallIs.enter B _ _ Tryd.func39 rfl rfl Tryd.ntmps39 Tryd.results39 rfl fun hreal => ?_
  clear hreal
  refine AWp.seq (AWp.region ?_)
  intro _
  refine AWp.freezeObj 1 rfl rfl ?_
  refine AWp.seq (AWp.region ?_)
  refine And.intro rfl (And.intro (Int.natCast_nonneg _) (And.intro (by simp only [Int.toNat_natCast]; omega) ?_))
  intro _
  refine AWp.seq (AWp.region ?_)
  intro _
  refine AWp.seq (AWp.seq (AWp.region ?_))
  intro _
  refine AWp.block (AWp.loop (fun k : Nat => ⟨[(1, .ptr f.cells), (3, .obj 3 0), (4, .fn 64 [.ptr f.cells, .obj 3 0]), (21, roL 3 Blk.cells f.Blocks), (22, .i64 f.Blocks.length), (23, .i64 k)], [(3, .cells [.sl 18 f.Values.length]), (18, rowB f.Values.length (memP (mkB f.Blocks k)))]⟩) (fun k => k ≤ f.Blocks.length ∧ OkP f (mkB f.Blocks k)) (fun k => f.Blocks.length - k) 0 ⟨Nat.zero_le _, OkP.nil f⟩ ?_ ?_)
  · skip
    refine And.intro ?_ ?_
    · repeat' (first | exact rfl | exact trivial | refine And.intro ?_ ?_)
    · refine And.intro ?_ (And.intro ?_ (And.intro ⟨_, _, rfl, rfl, fun i hi => ?_⟩ (And.intro trivial trivial)))
      · exact rfl
      · repeat' (first | exact rfl | exact trivial | refine And.intro ?_ ?_)
      exact rfl
  intro k hk
  obtain ⟨hk, hP⟩ := hk
  refine AWp.seq (AWp.region ?_)
  intro _
  refine AWp.seq (AWp.cond (And.intro (fun h => ?_) (fun h => ?_)))
  · refine AWp.skip ?_
    have hk' : k < f.Blocks.length := by have := of_decide_eq_true h; omega
    have hp := hz.params k hk'
    have hin := hz.instrs k hk'
    refine AWp.seq (AWp.block (AWp.seq (AWp.region ?_)))
    refine And.intro (fun _ => And.intro (Int.natCast_nonneg _) (Int.ofNat_lt.2 hk')) ?_
    intro _
    refine AWp.freezeObj 6 rfl rfl ?_
    refine AWp.seq (AWp.seq (AWp.region ?_))
    intro _
    refine AWp.block (AWp.loop (fun j : Nat => ⟨[(1, .ptr f.cells), (3, .obj 3 0), (4, .fn 64 [.ptr f.cells, .obj 3 0]), (21, roL 3 Blk.cells f.Blocks), (22, .i64 f.Blocks.length), (23, .i64 k), (6, .ptr (f.Blocks.getD k default).cells), (28, ints (f.Blocks.getD k default).Params), (29, .i64 (f.Blocks.getD k default).Params.length), (30, .i64 j)], [(3, .cells [.sl 18 f.Values.length]), (18, rowB f.Values.length (memP (mkB f.Blocks k ++ (f.Blocks.getD k default).Params.take j)))]⟩) (fun j => j ≤ (f.Blocks.getD k default).Params.length ∧ OkP f (mkB f.Blocks k ++ (f.Blocks.getD k default).Params.take j)) (fun j => (f.Blocks.getD k default).Params.length - j) 0 ⟨Nat.zero_le _, by simpa using hP⟩ ?_ ?_)
    · skip
      rw [show mkB f.Blocks k ++ (f.Blocks.getD k default).Params.take 0 = mkB f.Blocks k by simp]
      refine And.intro ?_ ?_
      · repeat' (first | exact rfl | exact trivial | refine And.intro ?_ ?_)
      · refine And.intro ?_ (And.intro ?_ (And.intro ⟨_, _, rfl, rfl, fun i hi => ?_⟩ (And.intro trivial trivial)))
        · exact rfl
        · repeat' (first | exact rfl | exact trivial | refine And.intro ?_ ?_)
        exact rfl
    intro j hj
    obtain ⟨hj, hPj⟩ := hj
    refine AWp.seq (AWp.region ?_)
    intro _
    refine AWp.seq (AWp.cond (And.intro (fun h => ?_) (fun h => ?_)))
    · refine AWp.skip ?_
      have hj' : j < (f.Blocks.getD k default).Params.length := Int.ofNat_lt.1 (of_decide_eq_true h)
      have hpl : (f.Blocks.getD k default).Params.length ≤ maxLen := by unfold maxLen; omega
      have hS : mkB f.Blocks k ++ (f.Blocks.getD k default).Params.take (j + 1) = (mkB f.Blocks k ++ (f.Blocks.getD k default).Params.take j) ++ [(f.Blocks.getD k default).Params.getD j default] := by rw [take_succ_getD hj', List.append_assoc]
      have hpre := pre_1 (j := j + 1) hk'
      rw [hS] at hpre
      refine AWp.seq (AWp.block (AWp.seq (AWp.region ?_)))
      refine And.intro (fun _ => And.intro (Int.natCast_nonneg _) (Int.ofNat_lt.2 hj')) ?_
      intro _
      refine AWp.seq (AWp.region ?_)
      refine CallX.lend (m_once1 f ((f.Blocks.getD k default).Params.getD j default) (memP (mkB f.Blocks k ++ (f.Blocks.getD k default).Params.take j))) [(1002, 3), (1001, 18)] rfl (And.intro rfl (And.intro rfl trivial)) rfl ?_
      intro _
      refine AWp.seq (AWp.region ?_)
      intro _
      refine AWp.cond (And.intro (fun hc => ?_) (fun hc => ?_))
      · refine AWp.seq (AWp.region ?_)
        intro _
        refine AWp.ret ⟨Or.inl rfl, rfl, ?_⟩
        intro _
        exact tupI (oneI_bad.trans (once_hit hpre hPj (bad_oneI hc)).symm)
      refine AWp.skip ?_
      refine AWp.region ?_
      intro _
      refine round_end (j + 1) ⟨hj', by rw [hS]; exact hPj.snoc (bad_zero hc)⟩ ?_ (by omega)
      rw [hS]
      refine And.intro ?_ ?_
      · repeat' (first | exact rfl | exact trivial | exact congrArg (fun z => some (AV.i64 z)) (wrap_succ hj' hpl) | refine And.intro ?_ ?_)
      · refine And.intro ?_ (And.intro ?_ (And.intro ⟨_, _, rfl, rfl, fun i hi => ?_⟩ (And.intro trivial trivial)))
        · exact rfl
        · repeat' (first | exact rfl | exact trivial | refine And.intro ?_ ?_)
        exact congrArg (fun b => [AV.bool b]) (oneM_snoc (bad_zero hc) i).symm
    have hj3 : ¬ (j : Int) < (f.Blocks.getD k default).Params.length := of_decide_eq_false h
    obtain rfl : j = (f.Blocks.getD k default).Params.length := by omega
    refine AWp.exit ?_
    refine AWp.seq (AWp.region ?_)
    intro _
    have hil : (f.Blocks.getD k default).Instrs.length ≤ maxLen := by unfold maxLen; omega
    refine AWp.block (AWp.loop (fun j : Nat => ⟨[(1, .ptr f.cells), (3, .obj 3 0), (4, .fn 64 [.ptr f.cells, .obj 3 0]), (21, roL 3 Blk.cells f.Blocks), (22, .i64 f.Blocks.length), (23, .i64 k), (6, .ptr (f.Blocks.getD k default).cells), (42, roL 3 Ins.cells (f.Blocks.getD k default).Instrs), (43, .i64 (f.Blocks.getD k default).Instrs.length), (44, .i64 j)], [(3, .cells [.sl 18 f.Values.length]), (18, rowB f.Values.length (memP (mkB f.Blocks k ++ ((f.Blocks.getD k default).Params ++ mkI (f.Blocks.getD k default) j))))]⟩) (fun j => j ≤ (f.Blocks.getD k default).Instrs.length ∧ OkP f (mkB f.Blocks k ++ ((f.Blocks.getD k default).Params ++ mkI (f.Blocks.getD k default) j))) (fun j => (f.Blocks.getD k default).Instrs.length - j) 0 ⟨Nat.zero_le _, by simpa [mkI] using hPj⟩ ?_ ?_)
    · skip
      rw [show mkB f.Blocks k ++ ((f.Blocks.getD k default).Params ++ mkI (f.Blocks.getD k default) 0) = mkB f.Blocks k ++ (f.Blocks.getD k default).Params.take (f.Blocks.getD k default).Params.length by simp [mkI]]
      refine And.intro ?_ ?_
      · repeat' (first | exact rfl | exact trivial | refine And.intro ?_ ?_)
      · refine And.intro ?_ (And.intro ?_ (And.intro ⟨_, _, rfl, rfl, fun i hi => ?_⟩ (And.intro trivial trivial)))
        · exact rfl
        · repeat' (first | exact rfl | exact trivial | refine And.intro ?_ ?_)
        exact rfl
    clear h hj hj3 hPj
    intro j hj
    obtain ⟨hj, hPj⟩ := hj
    refine AWp.seq (AWp.region ?_)
    intro _
    refine AWp.seq (AWp.cond (And.intro (fun h => ?_) (fun h => ?_)))
    · refine AWp.skip ?_
      have hj' : j < (f.Blocks.getD k default).Instrs.length := Int.ofNat_lt.1 (of_decide_eq_true h)
      have hop := hz.ops k j hk' hj'
      have hol : ((f.Blocks.getD k default).Instrs.getD j default).Operands.length ≤ maxLen := by unfold maxLen; omega
      refine AWp.seq (AWp.block (AWp.seq (AWp.region ?_)))
      refine And.intro (fun _ => And.intro (Int.natCast_nonneg _) (Int.ofNat_lt.2 hj')) ?_
      intro _
      refine AWp.freezeObj 11 rfl rfl ?_
      refine AWp.seq (AWp.region ?_)
      intro _
      refine AWp.block (AWp.loop (fun i : Nat => ⟨[(1, .ptr f.cells), (3, .obj 3 0), (4, .fn 64 [.ptr f.cells, .obj 3 0]), (21, roL 3 Blk.cells f.Blocks), (22, .i64 f.Blocks.length), (23, .i64 k), (6, .ptr (f.Blocks.getD k default).cells), (42, roL 3 Ins.cells (f.Blocks.getD k default).Instrs), (43, .i64 (f.Blocks.getD k default).Instrs.length), (44, .i64 j), (49, roL 5 Opd.cells ((f.Blocks.getD k default).Instrs.getD j default).Operands), (50, .i64 ((f.Blocks.getD k default).Instrs.getD j default).Operands.length), (51, .i64 i)], [(3, .cells [.sl 18 f.Values.length]), (18, rowB f.Values.length (memP (mkB f.Blocks k ++ ((f.Blocks.getD k default).Params ++ mkI (f.Blocks.getD k default) j) ++ mkO ((f.Blocks.getD k default).Instrs.getD j default) i)))]⟩) (fun i => i ≤ ((f.Blocks.getD k default).Instrs.getD j default).Operands.length ∧ OkP f (mkB f.Blocks k ++ ((f.Blocks.getD k default).Params ++ mkI (f.Blocks.getD k default) j) ++ mkO ((f.Blocks.getD k default).Instrs.getD j default) i)) (fun i => ((f.Blocks.getD k default).Instrs.getD j default).Operands.length - i) 0 ⟨Nat.zero_le _, by simpa [mkO] using hPj⟩ ?_ ?_)
      · skip
        rw [show mkB f.Blocks k ++ ((f.Blocks.getD k default).Params ++ mkI (f.Blocks.getD k default) j) ++ mkO ((f.Blocks.getD k default).Instrs.getD j default) 0 = mkB f.Blocks k ++ ((f.Blocks.getD k default).Params ++ mkI (f.Blocks.getD k default) j) by simp [mkO]]
        refine And.intro ?_ ?_
        · repeat' (first | exact rfl | exact trivial | refine And.intro ?_ ?_)
        · refine And.intro ?_ (And.intro ?_ (And.intro ⟨_, _, rfl, rfl, fun i hi => ?_⟩ (And.intro trivial trivial)))
          · exact rfl
          · repeat' (first | exact rfl | exact trivial | refine And.intro ?_ ?_)
          exact rfl
      intro i hi
      obtain ⟨hi, hPi⟩ := hi
      refine AWp.seq (AWp.region ?_)
      intro _
      refine AWp.seq (AWp.cond (And.intro (fun h => ?_) (fun h => ?_)))
      · refine AWp.skip ?_
        have hi' : i < ((f.Blocks.getD k default).Instrs.getD j default).Operands.length := Int.ofNat_lt.1 (of_decide_eq_true h)
        refine AWp.seq (AWp.block (AWp.seq (AWp.region ?_)))
        refine And.intro (fun _ => And.intro (Int.natCast_nonneg _) (Int.ofNat_lt.2 hi')) ?_
        intro _
        refine AWp.freezeObj 13 rfl rfl ?_
        refine AWp.seq (AWp.seq (AWp.region ?_))
        intro _
        refine (AWp.cond (And.intro (fun hd => ?_) (fun hd => ?_)))
        · refine AWp.exit ?_
          refine AWp.region ?_
          intro _
          have hS : mkO ((f.Blocks.getD k default).Instrs.getD j default) (i + 1) = mkO ((f.Blocks.getD k default).Instrs.getD j default) i := mkO_miss hi' (by simpa using hd)
          refine round_end (i + 1) ⟨hi', by rw [hS]; exact hPi⟩ ?_ (by omega)
          rw [hS]
          refine And.intro ?_ ?_
          · repeat' (first | exact rfl | exact trivial | exact congrArg (fun z => some (AV.i64 z)) (wrap_succ hi' hol) | refine And.intro ?_ ?_)
          · refine And.intro ?_ (And.intro ?_ (And.intro ⟨_, _, rfl, rfl, fun i hi => ?_⟩ (And.intro trivial trivial)))
            · exact rfl
            · repeat' (first | exact rfl | exact trivial | refine And.intro ?_ ?_)
            exact rfl
        refine AWp.skip ?_
        have hS : mkB f.Blocks k ++ ((f.Blocks.getD k default).Params ++ mkI (f.Blocks.getD k default) j) ++ mkO ((f.Blocks.getD k default).Instrs.getD j default) (i + 1) = (mkB f.Blocks k ++ ((f.Blocks.getD k default).Params ++ mkI (f.Blocks.getD k default) j) ++ mkO ((f.Blocks.getD k default).Instrs.getD j default) i) ++ [(((f.Blocks.getD k default).Instrs.getD j default).Operands.getD i default).Value] := by rw [mkO_hit hi' (by simpa using hd)]; simp only [List.append_assoc]
        have hpre := pre_3 (i := i + 1) hk' hj' hi'
        rw [hS] at hpre
        refine AWp.seq (AWp.region ?_)
        refine CallX.lend (m_once1 f (((f.Blocks.getD k default).Instrs.getD j default).Operands.getD i default).Value (memP (mkB f.Blocks k ++ ((f.Blocks.getD k default).Params ++ mkI (f.Blocks.getD k default) j) ++ mkO ((f.Blocks.getD k default).Instrs.getD j default) i))) [(1002, 3), (1001, 18)] rfl (And.intro rfl (And.intro rfl trivial)) rfl ?_
        intro _
        refine AWp.seq (AWp.region ?_)
        intro _
        refine AWp.cond (And.intro (fun hc => ?_) (fun hc => ?_))
        · refine AWp.seq (AWp.region ?_)
          intro _
          refine AWp.ret ⟨Or.inl rfl, rfl, ?_⟩
          intro _
          exact tupI (oneI_bad.trans (once_hit hpre hPi (bad_oneI hc)).symm)
        refine AWp.skip ?_
        refine AWp.region ?_
        intro _
        refine round_end (i + 1) ⟨hi', by rw [hS]; exact hPi.snoc (bad_zero hc)⟩ ?_ (by omega)
        rw [hS]
        refine And.intro ?_ ?_
        · repeat' (first | exact rfl | exact trivial | exact congrArg (fun z => some (AV.i64 z)) (wrap_succ hi' hol) | refine And.intro ?_ ?_)
        · refine And.intro ?_ (And.intro ?_ (And.intro ⟨_, _, rfl, rfl, fun i hi => ?_⟩ (And.intro trivial trivial)))
          · exact rfl
          · repeat' (first | exact rfl | exact trivial | refine And.intro ?_ ?_)
          exact congrArg (fun b => [AV.bool b]) (oneM_snoc (bad_zero hc) _).symm
      have hi3 : ¬ (i : Int) < ((f.Blocks.getD k default).Instrs.getD j default).Operands.length := of_decide_eq_false h
      obtain rfl : i = ((f.Blocks.getD k default).Instrs.getD j default).Operands.length := by omega
      refine AWp.exit ?_
      refine AWp.region ?_
      intro _
      have hS : mkB f.Blocks k ++ ((f.Blocks.getD k default).Params ++ mkI (f.Blocks.getD k default) (j + 1)) = mkB f.Blocks k ++ ((f.Blocks.getD k default).Params ++ mkI (f.Blocks.getD k default) j) ++ mkO ((f.Blocks.getD k default).Instrs.getD j default) ((f.Blocks.getD k default).Instrs.getD j default).Operands.length := by rw [mkI_succ hj']; simp only [List.append_assoc]
      refine round_end (j + 1) ⟨hj', by rw [hS]; exact hPi⟩ ?_ (by omega)
      rw [hS]
      refine And.intro ?_ ?_
      · repeat' (first | exact rfl | exact trivial | exact congrArg (fun z => some (AV.i64 z)) (wrap_succ hj' hil) | refine And.intro ?_ ?_)
      · refine And.intro ?_ (And.intro ?_ (And.intro ⟨_, _, rfl, rfl, fun i hi => ?_⟩ (And.intro trivial trivial)))
        · exact rfl
        · repeat' (first | exact rfl | exact trivial | refine And.intro ?_ ?_)
        exact rfl
    have hj3 : ¬ (j : Int) < (f.Blocks.getD k default).Instrs.length := of_decide_eq_false h
    obtain rfl : j = (f.Blocks.getD k default).Instrs.length := by omega
    refine AWp.exit ?_
    refine AWp.region ?_
    intro _
    refine round_end (k + 1) ⟨hk', by rw [mkB_succ hk']; exact hPj⟩ ?_ (by omega)
    rw [mkB_succ hk']
    refine And.intro ?_ ?_
    · repeat' (first | exact rfl | exact trivial | exact congrArg (fun z => some (AV.i64 z)) (wrap_succ hk' hlen) | refine And.intro ?_ ?_)
    · refine And.intro ?_ (And.intro ?_ (And.intro ⟨_, _, rfl, rfl, fun i hi => ?_⟩ (And.intro trivial trivial)))
      · exact rfl
      · repeat' (first | exact rfl | exact trivial | refine And.intro ?_ ?_)
      exact rfl
  have hk3 : ¬ (k : Int) < f.Blocks.length := of_decide_eq_false h
  obtain rfl : k = f.Blocks.length := by omega
  refine AWp.exit ?_
  have hL : mkB f.Blocks f.Blocks.length = makL f := rfl
  rw [hL] at hP ⊢
  have hA : anyB (isB (memP (makL f)) false) f.Values.length = decide ((makL f).length < f.Values.length) := anyFalse hP
  have hA0 : onceF f = if (makL f).length < f.Values.length then 6 else 0 := by unfold onceF; rw [okP_zero hP, if_neg (fun h => h rfl)]
  have hvm : f.Values.length ≤ maxLen := by unfold maxLen; omega
  have hc := c_ContainsBool (memP (makL f)) f.Values.length false hvm
  rw [hA] at hc
  repeat' (first
    | refine AWp.seq ?_ | refine AWp.block ?_ | refine AWp.skip ?_ | refine AWp.exit ?_
    | refine AWp.region ?_ | refine AWp.draw mixed (by kernel_rfl) ?_
    | refine AWp.cond (And.intro (fun h => ?_) (fun h => ?_))
    | refine AWp.ret ⟨Or.inl rfl, rfl, ?_⟩
    | refine CallX.pure (hc) rfl rfl rfl ?_ | refine CallK.intro (fun _ => hc) ?_
    | exact trivial | refine And.intro ?_ ?_ | intro _)
  all_goals rw [hA0]
  all_goals exact tupI (by grind)
end Go.Proofs.YtgkdmdfjfepcdaaDoor

/- What shape.Check answers. Condition: none. -/
namespace Go.Proofs.YtgkdmdfjfepcdaaDoor
open Go Go.Abs Go.RowKit

theorem getD_mem {α : Type} {l : List α} {k : Nat} {d : α} (h : k < l.length) : l.getD k d ∈ l := by
  rw [List.getD_eq_getElem?_getD, List.getElem?_eq_getElem h, Option.getD_some]; exact List.getElem_mem h
theorem ok_blk {f : Fun} (h : Fun.ok f) {k : Nat} (hk : k < f.Blocks.length) : Blk.ok (f.Blocks.getD k default) := h.2.2 _ (getD_mem hk)
theorem ok_ins {b : Blk} (h : Blk.ok b) {k : Nat} (hk : k < b.Instrs.length) : Ins.ok (b.Instrs.getD k default) := h.2.1.2 _ (getD_mem hk)
theorem ok_edg {b : Blk} (h : Blk.ok b) {k : Nat} (hk : k < b.Edges.length) : Edg.ok (b.Edges.getD k default) := h.2.2.2 _ (getD_mem hk)
theorem ok_opd {x : Ins} (h : Ins.ok x) {k : Nat} (hk : k < x.Operands.length) : Opd.ok (x.Operands.getD k default) := h.2.1.2 _ (getD_mem hk)
theorem lok_max {α : Type} {by_ : Nat} {p : α → Prop} {l : List α} (h : LOk by_ p l) (hb : 0 < by_) : l.length ≤ maxLen := by
  have := h.1
  have h2 : l.length * 1 ≤ l.length * by_ := Nat.mul_le_mul_left _ hb
  unfold maxLen; omega
def clsG (f : Fun) (j : Nat) : Int := if f.Values.getD j default < 0 ∨ 2 ≤ f.Values.getD j default then 17 else 0
def insG (f : Fun) (m : Mch) (b : Blk) (j : Nat) : Int := insF f m (b.Instrs.getD j default)
def edgH (f : Fun) (b : Blk) (j : Nat) : Int := edgF f (b.Edges.getD j default)
def blkF (f : Fun) (m : Mch) (b : Blk) : Int :=
  if firstF (insG f m b) b.Instrs.length ≠ 0 then firstF (insG f m b) b.Instrs.length
  else if 1 < b.Edges.length ∧ b.Instrs.length = 0 then 4
  else firstF (edgH f b) b.Edges.length
def blkG (f : Fun) (m : Mch) (k : Nat) : Int := blkF f m (f.Blocks.getD k default)
def chkF (f : Fun) (m : Mch) : Int :=
  if machF m ≠ 0 then machF m
  else if sizF f ≠ 0 then sizF f
  else if firstF (clsG f) f.Values.length ≠ 0 then firstF (clsG f) f.Values.length
  else if 0 < (f.Blocks.getD 0 default).Params.length then 4
  else if firstF (blkG f m) f.Blocks.length ≠ 0 then firstF (blkG f m) f.Blocks.length
  else onceF f
theorem vOk_of {f : Fun} (h1 : sizF f = 0) (h : firstF (clsG f) f.Values.length = 0) : VOk f := by
  refine ⟨(sizOk_of h1).values, fun c hc => ?_⟩
  obtain ⟨i, hi, rfl⟩ := List.getElem_of_mem hc
  have := firstF_zero h i hi
  unfold clsG at this
  rw [List.getD_eq_getElem?_getD, List.getElem?_eq_getElem hi, Option.getD_some] at this
  split at this
  · cases this
  · omega
theorem chkF_1 {f : Fun} {m : Mch} (h : machF m ≠ 0) : chkF f m = machF m := if_pos h
theorem chkF_2 {f : Fun} {m : Mch} (h : machF m = 0) (h2 : sizF f ≠ 0) : chkF f m = sizF f := by unfold chkF; rw [h, if_neg (fun h => h rfl), if_pos h2]
theorem chkF_3 {f : Fun} {m : Mch} (h : machF m = 0) (h2 : sizF f = 0) {v : Int} (h3 : firstF (clsG f) f.Values.length = v) (hv : v ≠ 0) : chkF f m = v := by
  unfold chkF; rw [h, if_neg (fun h => h rfl), h2, if_neg (fun h => h rfl), h3, if_pos hv]
theorem chkF_4 {f : Fun} {m : Mch} (h : machF m = 0) (h2 : sizF f = 0) (h3 : firstF (clsG f) f.Values.length = 0) (h4 : 0 < (f.Blocks.getD 0 default).Params.length) : chkF f m = 4 := by
  unfold chkF; rw [h, if_neg (fun h => h rfl), h2, if_neg (fun h => h rfl), h3, if_neg (fun h => h rfl), if_pos h4]
theorem chkF_5 {f : Fun} {m : Mch} (h : machF m = 0) (h2 : sizF f = 0) (h3 : firstF (clsG f) f.Values.length = 0) (h4 : ¬ 0 < (f.Blocks.getD 0 default).Params.length) {v : Int} (h5 : firstF (blkG f m) f.Blocks.length = v) (hv : v ≠ 0) : chkF f m = v := by
  unfold chkF; rw [h, if_neg (fun h => h rfl), h2, if_neg (fun h => h rfl), h3, if_neg (fun h => h rfl), if_neg h4, h5, if_pos hv]
theorem chkF_6 {f : Fun} {m : Mch} (h : machF m = 0) (h2 : sizF f = 0) (h3 : firstF (clsG f) f.Values.length = 0) (h4 : ¬ 0 < (f.Blocks.getD 0 default).Params.length) (h5 : firstF (blkG f m) f.Blocks.length = 0) : chkF f m = onceF f := by
  unfold chkF; rw [h, if_neg (fun h => h rfl), h2, if_neg (fun h => h rfl), h3, if_neg (fun h => h rfl), if_neg h4, h5, if_neg (fun h => h rfl)]
theorem blkF_1 {f : Fun} {m : Mch} {b : Blk} {v : Int} (h : firstF (insG f m b) b.Instrs.length = v) (hv : v ≠ 0) : blkF f m b = v := by unfold blkF; rw [h, if_pos hv]
theorem blkF_2 {f : Fun} {m : Mch} {b : Blk} (h : firstF (insG f m b) b.Instrs.length = 0) (h2 : 1 < b.Edges.length ∧ b.Instrs.length = 0) : blkF f m b = 4 := by unfold blkF; rw [h, if_neg (fun h => h rfl), if_pos h2]
theorem blkF_3 {f : Fun} {m : Mch} {b : Blk} {v : Int} (h : firstF (insG f m b) b.Instrs.length = 0) (h2 : ¬ (1 < b.Edges.length ∧ b.Instrs.length = 0)) (h3 : firstF (edgH f b) b.Edges.length = v) : blkF f m b = v := by unfold blkF; rw [h, if_neg (fun h => h rfl), if_neg h2, h3]
end Go.Proofs.YtgkdmdfjfepcdaaDoor

/- Contract of shape.Check. Condition: what the function's slices may weigh. -/
namespace Go.Proofs.YtgkdmdfjfepcdaaDoor
open Go Go.Abs Go.RowKit

set_option maxHeartbeats 1000000 in
theorem c_Check (f : Fun) (m : Mch) (hok : Fun.ok f) : ACallIs B.P 24 [f.av, m.av] (.i64 (chkF f m)) := by
  have hvl : f.Values.length ≤ maxLen := lok_max hok.1 (by decide)
  refine ACallIs.enter B _ _ Tryd.func24 rfl rfl Tryd.ntmps24 Tryd.results24 rfl fun hreal => ?_
  clear hreal
  refine AWp.seq (AWp.region ?_)
  intro _
  refine AWp.freezeObj 2 rfl rfl ?_
  refine AWp.freezeObj 3 rfl rfl ?_
  repeat' (first
    | refine AWp.seq ?_ | refine AWp.block ?_ | refine AWp.skip ?_ | refine AWp.exit ?_
    | refine AWp.region ?_ | refine AWp.draw mixed (by kernel_rfl) ?_
    | refine AWp.cond (And.intro (fun h => ?_) (fun h => ?_))
    | refine AWp.ret ⟨Or.inl rfl, rfl, ?_⟩
    | refine CallX.pure (c_CheckMachine m) rfl rfl rfl ?_ | refine CallK.intro (fun _ => c_CheckMachine m) ?_
    | refine CallX.pure (c_sizes f) rfl rfl rfl ?_ | refine CallK.intro (fun _ => c_sizes f) ?_
    | exact trivial | refine And.intro ?_ ?_ | intro _)
  all_goals first | assumption | exact tupI (chkF_1 (by simpa using ‹(machF m != 0) = true›)).symm | exact tupI (chkF_2 (by simpa using ‹(machF m != 0) = false›) (by simpa using ‹(sizF f != 0) = true›)).symm | refine AWp.loop (fun k : Nat => ⟨[(2, .ptr f.cells), (3, .ptr m.cells), (28, ints f.Values), (29, .i64 f.Values.length), (30, .i64 k)], []⟩) (fun k => k ≤ f.Values.length ∧ ∀ j, j < k → clsG f j = 0) (fun k => f.Values.length - k) 0 ⟨Nat.zero_le _, fun j hj => absurd hj (by omega)⟩ ?_ ?_ | (simp_all; done)
  · repeat' (first | exact rfl | exact trivial | refine And.intro ?_ ?_)
  have hm : machF m = 0 := by simpa using ‹(machF m != 0) = false›
  have hs : sizF f = 0 := by simpa using ‹(sizF f != 0) = false›
  have hz := sizOk_of hs
  intro k hk
  obtain ⟨hk, hg⟩ := hk
  refine AWp.seq (AWp.region ?_)
  intro _
  refine AWp.seq (AWp.cond (And.intro (fun h => ?_) (fun h => ?_)))
  · refine AWp.skip ?_
    have hk' : k < f.Values.length := Int.ofNat_lt.1 (of_decide_eq_true h)
    repeat' (first
      | refine AWp.seq ?_ | refine AWp.block ?_ | refine AWp.skip ?_ | refine AWp.exit ?_
      | refine AWp.region ?_ | refine AWp.draw mixed (by kernel_rfl) ?_
      | refine AWp.cond (And.intro (fun h => ?_) (fun h => ?_))
      | refine AWp.ret ⟨Or.inl rfl, rfl, ?_⟩
      | exact trivial | refine And.intro ?_ ?_ | intro _)
    all_goals first | assumption | exact Int.natCast_nonneg _ | exact Int.ofNat_lt.2 hk' | (refine tupI (chkF_3 hm hs ((firstF_hit (k := k) hk' hg ?_).trans ?_) (by decide)).symm <;> (clear hg; (try simp only [bif_if, Int.toNat_natCast] at *); simp only [clsG]; grind)) | refine round_end (k + 1) ⟨hk', upto hg (by clear hg; (try simp only [bif_if, Int.toNat_natCast] at *); simp only [clsG]; grind)⟩ (by repeat' (first | exact rfl | exact trivial | exact congrArg (fun z => some (AV.i64 z)) (wrap_succ hk' hvl) | refine And.intro ?_ ?_)) (by omega) | (simp_all; done)
  have hk3 : ¬ (k : Int) < f.Values.length := of_decide_eq_false h
  obtain rfl : k = f.Values.length := by omega
  have hc : firstF (clsG f) f.Values.length = 0 := firstF_none hg
  have hv := vOk_of hs hc
  have hb := hz.blocks
  have hbl : f.Blocks.length ≤ maxLen := by unfold maxLen; omega
  clear hg hk h hk3
  refine AWp.exit ?_
  repeat' (first
    | refine AWp.seq ?_ | refine AWp.block ?_ | refine AWp.skip ?_ | refine AWp.exit ?_
    | refine AWp.region ?_ | refine AWp.draw mixed (by kernel_rfl) ?_
    | refine AWp.cond (And.intro (fun h => ?_) (fun h => ?_))
    | refine AWp.ret ⟨Or.inl rfl, rfl, ?_⟩
    | exact trivial | refine And.intro ?_ ?_ | intro _)
  all_goals first | assumption | omega | exact tupI (chkF_4 hm hs hc (Int.ofNat_lt.1 (of_decide_eq_true (by assumption)))).symm | refine AWp.loop (fun k : Nat => ⟨[(2, .ptr f.cells), (3, .ptr m.cells), (49, roL 3 Blk.cells f.Blocks), (50, .i64 f.Blocks.length), (51, .i64 k)], []⟩) (fun k => k ≤ f.Blocks.length ∧ ∀ j, j < k → blkG f m j = 0) (fun k => f.Blocks.length - k) 0 ⟨Nat.zero_le _, fun j hj => absurd hj (by omega)⟩ ?_ ?_ | (simp_all; done)
  · repeat' (first | exact rfl | exact trivial | refine And.intro ?_ ?_)
  have hp : ¬ 0 < (f.Blocks.getD 0 default).Params.length := fun h => absurd (Int.ofNat_lt.2 h) (of_decide_eq_false (by assumption))
  intro k hk
  obtain ⟨hk, hg⟩ := hk
  refine AWp.seq (AWp.region ?_)
  intro _
  refine AWp.seq (AWp.cond (And.intro (fun h => ?_) (fun h => ?_)))
  · refine AWp.skip ?_
    have hk' : k < f.Blocks.length := Int.ofNat_lt.1 (of_decide_eq_true h)
    have hkb := ok_blk hok hk'
    have hil : (f.Blocks.getD k default).Instrs.length ≤ maxLen := lok_max hkb.2.1 (by decide)
    have hel : (f.Blocks.getD k default).Edges.length ≤ maxLen := lok_max hkb.2.2 (by decide)
    have hit : blkG f m k ≠ 0 → chkF f m = blkG f m k := fun h0 => chkF_5 hm hs hc hp (firstF_hit (k := k) hk' hg h0) h0
    refine AWp.seq (AWp.block (AWp.seq (AWp.region ?_)))
    refine And.intro (fun _ => And.intro (Int.natCast_nonneg _) (Int.ofNat_lt.2 hk')) ?_
    intro _
    refine AWp.freezeObj 10 rfl rfl ?_
    refine AWp.seq (AWp.seq (AWp.region ?_))
    intro _
    refine AWp.block (AWp.loop (fun j : Nat => ⟨[(2, .ptr f.cells), (3, .ptr m.cells), (49, roL 3 Blk.cells f.Blocks), (50, .i64 f.Blocks.length), (51, .i64 k), (10, .ptr (f.Blocks.getD k default).cells), (56, roL 3 Ins.cells (f.Blocks.getD k default).Instrs), (57, .i64 (f.Blocks.getD k default).Instrs.length), (58, .i64 j)], []⟩) (fun j => j ≤ (f.Blocks.getD k default).Instrs.length ∧ ∀ a, a < j → insG f m (f.Blocks.getD k default) a = 0) (fun j => (f.Blocks.getD k default).Instrs.length - j) 0 ⟨Nat.zero_le _, fun j hj => absurd hj (by omega)⟩ ?_ ?_)
    · repeat' (first | exact rfl | exact trivial | refine And.intro ?_ ?_)
    intro j hj
    obtain ⟨hj, hgj⟩ := hj
    refine AWp.seq (AWp.region ?_)
    intro _
    refine AWp.seq (AWp.cond (And.intro (fun h => ?_) (fun h => ?_)))
    · refine AWp.skip ?_
      have hj' : j < (f.Blocks.getD k default).Instrs.length := Int.ofNat_lt.1 (of_decide_eq_true h)
      refine AWp.seq (AWp.block (AWp.seq (AWp.region ?_)))
      refine And.intro (fun _ => And.intro (Int.natCast_nonneg _) (Int.ofNat_lt.2 hj')) ?_
      intro _
      refine AWp.freezeObj 12 rfl rfl ?_
      repeat' (first
        | refine AWp.seq ?_ | refine AWp.block ?_ | refine AWp.skip ?_ | refine AWp.exit ?_
        | refine AWp.region ?_ | refine AWp.draw mixed (by kernel_rfl) ?_
        | refine AWp.cond (And.intro (fun h => ?_) (fun h => ?_))
        | refine AWp.ret ⟨Or.inl rfl, rfl, ?_⟩
        | refine CallX.pure (c_instr f m ((f.Blocks.getD k default).Instrs.getD j default) hv hm (hz.ops k j hk' hj') (hz.spo k j hk' hj')) rfl rfl rfl ?_ | refine CallK.intro (fun _ => c_instr f m ((f.Blocks.getD k default).Instrs.getD j default) hv hm (hz.ops k j hk' hj') (hz.spo k j hk' hj')) ?_
        | exact trivial | refine And.intro ?_ ?_ | intro _)
      all_goals first | assumption | (have hb0 : insG f m (f.Blocks.getD k default) j ≠ 0 := (by unfold insG; simpa using ‹(_ != (0 : Int)) = true›); have hb1 := blkF_1 (firstF_hit (k := j) hj' hgj hb0) hb0; exact tupI ((hit (by unfold blkG; rw [hb1]; exact hb0)).trans hb1).symm) | refine round_end (j + 1) ⟨hj', upto hgj (by unfold insG; simpa using ‹(_ != (0 : Int)) = false›)⟩ (by repeat' (first | exact rfl | exact trivial | exact congrArg (fun z => some (AV.i64 z)) (wrap_succ hj' hil) | refine And.intro ?_ ?_)) (by omega) | (simp_all; done)
    have hj3 : ¬ (j : Int) < (f.Blocks.getD k default).Instrs.length := of_decide_eq_false h
    obtain rfl : j = (f.Blocks.getD k default).Instrs.length := by omega
    have hI : firstF (insG f m (f.Blocks.getD k default)) (f.Blocks.getD k default).Instrs.length = 0 := firstF_none hgj
    clear hgj hj h hj3
    refine AWp.exit ?_
    repeat' (first
      | refine AWp.seq ?_ | refine AWp.block ?_ | refine AWp.skip ?_ | refine AWp.exit ?_
      | refine AWp.region ?_ | refine AWp.draw mixed (by kernel_rfl) ?_
      | refine AWp.cond (And.intro (fun h => ?_) (fun h => ?_))
      | refine AWp.ret ⟨Or.inl rfl, rfl, ?_⟩
      | exact trivial | refine And.intro ?_ ?_ | intro _)
    all_goals first | assumption | (have hb1 := blkF_2 hI (by (try simp only [bif_if] at *); grind); exact tupI ((hit (by unfold blkG; rw [hb1]; decide)).trans hb1).symm) | refine AWp.loop (fun j : Nat => ⟨[(2, .ptr f.cells), (3, .ptr m.cells), (49, roL 3 Blk.cells f.Blocks), (50, .i64 f.Blocks.length), (51, .i64 k), (81, roL 2 Edg.cells (f.Blocks.getD k default).Edges), (82, .i64 (f.Blocks.getD k default).Edges.length), (83, .i64 j)], []⟩) (fun j => j ≤ (f.Blocks.getD k default).Edges.length ∧ ∀ a, a < j → edgH f (f.Blocks.getD k default) a = 0) (fun j => (f.Blocks.getD k default).Edges.length - j) 0 ⟨Nat.zero_le _, fun j hj => absurd hj (by omega)⟩ ?_ ?_ | (simp_all; done)
    · repeat' (first | exact rfl | exact trivial | refine And.intro ?_ ?_)
    have hE : ¬ (1 < (f.Blocks.getD k default).Edges.length ∧ (f.Blocks.getD k default).Instrs.length = 0) := by (try simp only [bif_if] at *); grind
    intro j hj
    obtain ⟨hj, hgj⟩ := hj
    refine AWp.seq (AWp.region ?_)
    intro _
    refine AWp.seq (AWp.cond (And.intro (fun h => ?_) (fun h => ?_)))
    · refine AWp.skip ?_
      have hj' : j < (f.Blocks.getD k default).Edges.length := Int.ofNat_lt.1 (of_decide_eq_true h)
      have hje := lok_max (ok_edg hkb hj').2 (by decide)
      refine AWp.seq (AWp.block (AWp.seq (AWp.region ?_)))
      refine And.intro (fun _ => And.intro (Int.natCast_nonneg _) (Int.ofNat_lt.2 hj')) ?_
      intro _
      refine AWp.freezeObj 15 rfl rfl ?_
      repeat' (first
        | refine AWp.seq ?_ | refine AWp.block ?_ | refine AWp.skip ?_ | refine AWp.exit ?_
        | refine AWp.region ?_ | refine AWp.draw mixed (by kernel_rfl) ?_
        | refine AWp.cond (And.intro (fun h => ?_) (fun h => ?_))
        | refine AWp.ret ⟨Or.inl rfl, rfl, ?_⟩
        | refine CallX.pure (c_edge f ((f.Blocks.getD k default).Edges.getD j default) hje) rfl rfl rfl ?_ | refine CallK.intro (fun _ => c_edge f ((f.Blocks.getD k default).Edges.getD j default) hje) ?_
        | exact trivial | refine And.intro ?_ ?_ | intro _)
      all_goals first | assumption | (have hb0 : edgH f (f.Blocks.getD k default) j ≠ 0 := (by unfold edgH; simpa using ‹(_ != (0 : Int)) = true›); have hb1 := blkF_3 hI hE (firstF_hit (k := j) hj' hgj hb0); exact tupI ((hit (by unfold blkG; rw [hb1]; exact hb0)).trans hb1).symm) | refine round_end (j + 1) ⟨hj', upto hgj (by unfold edgH; simpa using ‹(_ != (0 : Int)) = false›)⟩ (by repeat' (first | exact rfl | exact trivial | exact congrArg (fun z => some (AV.i64 z)) (wrap_succ hj' hel) | refine And.intro ?_ ?_)) (by omega) | (simp_all; done)
    have hj3 : ¬ (j : Int) < (f.Blocks.getD k default).Edges.length := of_decide_eq_false h
    refine AWp.exit ?_
    refine AWp.region ?_
    intro _
    refine round_end (k + 1) ⟨hk', upto hg (blkF_3 hI hE (firstF_none (fun a ha => hgj a (by omega))))⟩ (by repeat' (first | exact rfl | exact trivial | exact congrArg (fun z => some (AV.i64 z)) (wrap_succ hk' hbl) | refine And.intro ?_ ?_)) (by omega)
  have hk3 : ¬ (k : Int) < f.Blocks.length := of_decide_eq_false h
  refine AWp.exit ?_
  have hB : firstF (blkG f m) f.Blocks.length = 0 := firstF_none (fun j hj => hg j (by omega))
  repeat' (first
    | refine AWp.seq ?_ | refine AWp.block ?_ | refine AWp.skip ?_ | refine AWp.exit ?_
    | refine AWp.region ?_ | refine AWp.draw mixed (by kernel_rfl) ?_
    | refine AWp.cond (And.intro (fun h => ?_) (fun h => ?_))
    | refine AWp.ret ⟨Or.inl rfl, rfl, ?_⟩
    | refine CallX.pure (c_once f hz) rfl rfl rfl ?_ | refine CallK.intro (fun _ => c_once f hz) ?_
    | exact trivial | refine And.intro ?_ ?_ | intro _)
  all_goals exact tupI (chkF_6 hm hs hc hp hB).symm
end Go.Proofs.YtgkdmdfjfepcdaaDoor

/- Contract of the document's ShapeFault. Condition: what the function's slices may weigh. -/
namespace Go.Proofs.YtgkdmdfjfepcdaaDoor
open Go Go.Abs Go.RowKit

theorem anyB_take {L : List Int} {v : Int} {k : Nat} (hk : k ≤ L.length) : anyB (isI (fun j => L.getD (0 + j) default) v) k = decide (v ∈ L.take k) := by
  rw [← anyB_mem, List.length_take, Nat.min_eq_left hk]
  refine anyB_congr fun j hj => ?_
  unfold isI
  simp only [Nat.zero_add]
  rw [List.getD_eq_getElem?_getD, List.getD_eq_getElem?_getD, List.getElem?_take_of_lt hj]
theorem badG_2 {f : Fun} {L : List Int} {k : Nat} (h : valB f (L.getD k default) = false) : badG f L k = 2 := if_pos h
theorem badG_7 {f : Fun} {L : List Int} {k : Nat} (h : valB f (L.getD k default) = true) (h2 : L.getD k default ∈ L.take k) : badG f L k = 7 := by unfold badG bad; rw [if_neg (by rw [h]; decide), if_pos h2]
theorem badG_0 {f : Fun} {L : List Int} {k : Nat} (h : valB f (L.getD k default) = true) (h2 : ¬ L.getD k default ∈ L.take k) : badG f L k = 0 := by unfold badG bad; rw [if_neg (by rw [h]; decide), if_neg h2]
theorem onceF_1 {f : Fun} {v : Int} (h : firstF (badG f (makL f)) (makL f).length = v) (hv : v ≠ 0) : onceF f = v := by unfold onceF; rw [h, if_pos hv]
theorem onceF_2 {f : Fun} (h : firstF (badG f (makL f)) (makL f).length = 0) : onceF f = if (makL f).length < f.Values.length then 6 else 0 := by unfold onceF; rw [h, if_neg (fun h => h rfl)]
set_option maxHeartbeats 1000000 in
theorem c_ShapeFault (f : Fun) (m : Mch) (hok : Fun.ok f) : ACallIs B.P 31 [f.av, m.av] (.i64 (chkF f m)) := by
  have hvl : f.Values.length ≤ maxLen := lok_max hok.1 (by decide)
  have hbi : ∀ k, (f.Blocks.getD k default).Instrs.length ≤ 140737488351232 := fun k => by
    by_cases hk : k < f.Blocks.length
    · have := (ok_blk hok hk).2.1.1
      omega
    · rw [List.getD_eq_getElem?_getD, List.getElem?_eq_none (by omega)]; exact Nat.zero_le _
  refine ACallIs.enter B _ _ Tryd.func31 rfl rfl Tryd.ntmps31 Tryd.results31 rfl fun hreal => ?_
  clear hreal
  refine AWp.seq (AWp.region ?_)
  intro _
  refine AWp.freezeObj 2 rfl rfl ?_
  refine AWp.freezeObj 3 rfl rfl ?_
  repeat' (first
    | refine AWp.seq ?_ | refine AWp.block ?_ | refine AWp.skip ?_ | refine AWp.exit ?_
    | refine AWp.region ?_ | refine AWp.draw mixed (by kernel_rfl) ?_
    | refine AWp.cond (And.intro (fun h => ?_) (fun h => ?_))
    | refine AWp.ret ⟨Or.inl rfl, rfl, ?_⟩
    | refine CallX.pure (c_MachineFault m) rfl rfl rfl ?_ | refine CallK.intro (fun _ => c_MachineFault m) ?_
    | refine CallX.pure (c_bigFault f hbi) rfl rfl rfl ?_ | refine CallK.intro (fun _ => c_bigFault f hbi) ?_
    | exact trivial | refine And.intro ?_ ?_ | intro _)
  all_goals first | assumption | (have hm0 : machF m ≠ 0 := (by simp_all); exact tupI (chkF_1 hm0).symm) | (have hm0 : machF m = 0 := (by simpa using ‹(machF m == 0) = true›); have hs0 : sizF f ≠ 0 := (by simp_all); exact tupI (chkF_2 hm0 hs0).symm) | skip
  all_goals first | (exfalso; simp_all; done) | skip
  refine AWp.loop (fun k : Nat => ⟨[(2, .ptr f.cells), (3, .ptr m.cells), (6, .i64 k)], []⟩) (fun k => k ≤ f.Values.length ∧ ∀ j, j < k → clsG f j = 0) (fun k => f.Values.length - k) 0 ⟨Nat.zero_le _, fun j hj => absurd hj (by omega)⟩ ?_ ?_
  · repeat' (first | exact rfl | exact trivial | refine And.intro ?_ ?_)
  have hm : machF m = 0 := by simpa using ‹(machF m == 0) = true›
  have hs : sizF f = 0 := by simpa using ‹(sizF f != 0) = false›
  have hz := sizOk_of hs
  intro k hk
  obtain ⟨hk, hg⟩ := hk
  refine AWp.seq (AWp.seq (AWp.region ?_))
  intro _
  refine AWp.cond (And.intro (fun h => ?_) (fun h => ?_))
  · refine AWp.skip ?_
    have hk' : k < f.Values.length := Int.ofNat_lt.1 (of_decide_eq_true h)
    repeat' (first
      | refine AWp.seq ?_ | refine AWp.block ?_ | refine AWp.skip ?_ | refine AWp.exit ?_
      | refine AWp.region ?_ | refine AWp.draw mixed (by kernel_rfl) ?_
      | refine AWp.cond (And.intro (fun h => ?_) (fun h => ?_))
      | refine AWp.ret ⟨Or.inl rfl, rfl, ?_⟩
      | refine CallX.pure (c_In (f.Values.getD k default) 0 1) rfl rfl rfl ?_ | refine CallK.intro (fun _ => c_In (f.Values.getD k default) 0 1) ?_
      | exact trivial | refine And.intro ?_ ?_ | intro _)
    all_goals first | assumption | exact Int.natCast_nonneg _ | exact Int.ofNat_lt.2 hk' | (refine tupI (chkF_3 hm hs ((firstF_hit (k := k) hk' hg ?_).trans ?_) (by decide)).symm <;> (clear hg; (try simp only [bif_if, Int.toNat_natCast, inB] at *); simp only [clsG]; grind)) | refine round_end (k + 1) ⟨hk', upto hg (by clear hg; (try simp only [bif_if, Int.toNat_natCast, inB] at *); simp only [clsG]; grind)⟩ (by repeat' (first | exact rfl | exact trivial | exact congrArg (fun z => some (AV.i64 z)) (wrap_succ hk' hvl) | refine And.intro ?_ ?_)) (by omega) | (simp_all; done)
  have hk3 : ¬ (k : Int) < f.Values.length := of_decide_eq_false h
  obtain rfl : k = f.Values.length := by omega
  have hc : firstF (clsG f) f.Values.length = 0 := firstF_none hg
  have hv := vOk_of hs hc
  have hb := hz.blocks
  have hbl : f.Blocks.length ≤ maxLen := by unfold maxLen; omega
  clear hg hk h hk3
  refine AWp.exit ?_
  repeat' (first
    | refine AWp.seq ?_ | refine AWp.block ?_ | refine AWp.skip ?_ | refine AWp.exit ?_
    | refine AWp.region ?_ | refine AWp.draw mixed (by kernel_rfl) ?_
    | refine AWp.cond (And.intro (fun h => ?_) (fun h => ?_))
    | refine AWp.ret ⟨Or.inl rfl, rfl, ?_⟩
    | exact trivial | refine And.intro ?_ ?_ | intro _)
  all_goals first | assumption | omega | exact tupI (chkF_4 hm hs hc (Int.ofNat_lt.1 (of_decide_eq_true (by assumption)))).symm | refine AWp.loop (fun k : Nat => ⟨[(2, .ptr f.cells), (3, .ptr m.cells), (7, .i64 k)], []⟩) (fun k => k ≤ f.Blocks.length ∧ ∀ j, j < k → blkG f m j = 0) (fun k => f.Blocks.length - k) 0 ⟨Nat.zero_le _, fun j hj => absurd hj (by omega)⟩ ?_ ?_
  · repeat' (first | exact rfl | exact trivial | refine And.intro ?_ ?_)
  have hp : ¬ 0 < (f.Blocks.getD 0 default).Params.length := fun h => absurd (Int.ofNat_lt.2 h) (of_decide_eq_false (by assumption))
  intro k hk
  obtain ⟨hk, hg⟩ := hk
  refine AWp.seq (AWp.seq (AWp.region ?_))
  intro _
  refine AWp.cond (And.intro (fun h => ?_) (fun h => ?_))
  · refine AWp.skip ?_
    have hk' : k < f.Blocks.length := Int.ofNat_lt.1 (of_decide_eq_true h)
    have hkb := ok_blk hok hk'
    have hil : (f.Blocks.getD k default).Instrs.length ≤ maxLen := lok_max hkb.2.1 (by decide)
    have hel : (f.Blocks.getD k default).Edges.length ≤ maxLen := lok_max hkb.2.2 (by decide)
    have hit : blkG f m k ≠ 0 → chkF f m = blkG f m k := fun h0 => chkF_5 hm hs hc hp (firstF_hit (k := k) hk' hg h0) h0
    refine AWp.seq (AWp.block (AWp.seq (AWp.region ?_)))
    refine And.intro (fun _ => And.intro (Int.natCast_nonneg _) (Int.ofNat_lt.2 hk')) ?_
    intro _
    refine AWp.freezeObj 8 rfl rfl ?_
    refine AWp.seq (AWp.seq (AWp.region ?_))
    intro _
    refine AWp.block (AWp.loop (fun j : Nat => ⟨[(2, .ptr f.cells), (3, .ptr m.cells), (7, .i64 k), (8, .ptr (f.Blocks.getD k default).cells), (9, .i64 j)], []⟩) (fun j => j ≤ (f.Blocks.getD k default).Instrs.length ∧ ∀ a, a < j → insG f m (f.Blocks.getD k default) a = 0) (fun j => (f.Blocks.getD k default).Instrs.length - j) 0 ⟨Nat.zero_le _, fun j hj => absurd hj (by omega)⟩ ?_ ?_)
    · repeat' (first | exact rfl | exact trivial | refine And.intro ?_ ?_)
    intro j hj
    obtain ⟨hj, hgj⟩ := hj
    refine AWp.seq (AWp.seq (AWp.region ?_))
    intro _
    refine AWp.cond (And.intro (fun h => ?_) (fun h => ?_))
    · refine AWp.skip ?_
      have hj' : j < (f.Blocks.getD k default).Instrs.length := Int.ofNat_lt.1 (of_decide_eq_true h)
      repeat' (first
        | refine AWp.seq ?_ | refine AWp.block ?_ | refine AWp.skip ?_ | refine AWp.exit ?_
        | refine AWp.region ?_ | refine AWp.draw mixed (by kernel_rfl) ?_
        | refine AWp.cond (And.intro (fun h => ?_) (fun h => ?_))
        | refine AWp.ret ⟨Or.inl rfl, rfl, ?_⟩
        | refine CallX.pure (c_instrFault f m ((f.Blocks.getD k default).Instrs.getD j default) hv hm (hz.ops k j hk' hj') (hz.spo k j hk' hj')) rfl rfl rfl ?_ | refine CallK.intro (fun _ => c_instrFault f m ((f.Blocks.getD k default).Instrs.getD j default) hv hm (hz.ops k j hk' hj') (hz.spo k j hk' hj')) ?_
        | exact trivial | refine And.intro ?_ ?_ | intro _)
      all_goals first | assumption | exact Int.natCast_nonneg _ | exact Int.ofNat_lt.2 hj' | (have hb0 : insG f m (f.Blocks.getD k default) j ≠ 0 := (by unfold insG; simpa using ‹(_ != (0 : Int)) = true›); have hb1 := blkF_1 (firstF_hit (k := j) hj' hgj hb0) hb0; exact tupI ((hit (by unfold blkG; rw [hb1]; exact hb0)).trans hb1).symm) | refine round_end (j + 1) ⟨hj', upto hgj (by unfold insG; simpa using ‹(_ != (0 : Int)) = false›)⟩ (by repeat' (first | exact rfl | exact trivial | exact congrArg (fun z => some (AV.i64 z)) (wrap_succ hj' hil) | refine And.intro ?_ ?_)) (by omega)
    have hj3 : ¬ (j : Int) < (f.Blocks.getD k default).Instrs.length := of_decide_eq_false h
    obtain rfl : j = (f.Blocks.getD k default).Instrs.length := by omega
    have hI : firstF (insG f m (f.Blocks.getD k default)) (f.Blocks.getD k default).Instrs.length = 0 := firstF_none hgj
    clear hgj hj h hj3
    refine AWp.exit ?_
    repeat' (first
      | refine AWp.seq ?_ | refine AWp.block ?_ | refine AWp.skip ?_ | refine AWp.exit ?_
      | refine AWp.region ?_ | refine AWp.draw mixed (by kernel_rfl) ?_
      | refine AWp.cond (And.intro (fun h => ?_) (fun h => ?_))
      | refine AWp.ret ⟨Or.inl rfl, rfl, ?_⟩
      | exact trivial | refine And.intro ?_ ?_ | intro _)
    all_goals first | assumption | (have hb1 := blkF_2 hI (by (try simp only [bif_if] at *); grind); exact tupI ((hit (by unfold blkG; rw [hb1]; decide)).trans hb1).symm) | refine AWp.loop (fun j : Nat => ⟨[(2, .ptr f.cells), (3, .ptr m.cells), (7, .i64 k), (8, .ptr (f.Blocks.getD k default).cells), (10, .i64 j)], []⟩) (fun j => j ≤ (f.Blocks.getD k default).Edges.length ∧ ∀ a, a < j → edgH f (f.Blocks.getD k default) a = 0) (fun j => (f.Blocks.getD k default).Edges.length - j) 0 ⟨Nat.zero_le _, fun j hj => absurd hj (by omega)⟩ ?_ ?_ | (simp_all; done)
    · repeat' (first | exact rfl | exact trivial | refine And.intro ?_ ?_)
    have hE : ¬ (1 < (f.Blocks.getD k default).Edges.length ∧ (f.Blocks.getD k default).Instrs.length = 0) := by (try simp only [bif_if] at *); grind
    intro j hj
    obtain ⟨hj, hgj⟩ := hj
    refine AWp.seq (AWp.seq (AWp.region ?_))
    intro _
    refine AWp.cond (And.intro (fun h => ?_) (fun h => ?_))
    · refine AWp.skip ?_
      have hj' : j < (f.Blocks.getD k default).Edges.length := Int.ofNat_lt.1 (of_decide_eq_true h)
      have hje := lok_max (ok_edg hkb hj').2 (by decide)
      repeat' (first
        | refine AWp.seq ?_ | refine AWp.block ?_ | refine AWp.skip ?_ | refine AWp.exit ?_
        | refine AWp.region ?_ | refine AWp.draw mixed (by kernel_rfl) ?_
        | refine AWp.cond (And.intro (fun h => ?_) (fun h => ?_))
        | refine AWp.ret ⟨Or.inl rfl, rfl, ?_⟩
        | refine CallX.pure (c_edgeFault f ((f.Blocks.getD k default).Edges.getD j default) hv hb.2 hje) rfl rfl rfl ?_ | refine CallK.intro (fun _ => c_edgeFault f ((f.Blocks.getD k default).Edges.getD j default) hv hb.2 hje) ?_
        | exact trivial | refine And.intro ?_ ?_ | intro _)
      all_goals first | assumption | exact Int.natCast_nonneg _ | exact Int.ofNat_lt.2 hj' | (have hb0 : edgH f (f.Blocks.getD k default) j ≠ 0 := (by unfold edgH; simpa using ‹(_ != (0 : Int)) = true›); have hb1 := blkF_3 hI hE (firstF_hit (k := j) hj' hgj hb0); exact tupI ((hit (by unfold blkG; rw [hb1]; exact hb0)).trans hb1).symm) | refine round_end (j + 1) ⟨hj', upto hgj (by unfold edgH; simpa using ‹(_ != (0 : Int)) = false›)⟩ (by repeat' (first | exact rfl | exact trivial | exact congrArg (fun z => some (AV.i64 z)) (wrap_succ hj' hel) | refine And.intro ?_ ?_)) (by omega)
    have hj3 : ¬ (j : Int) < (f.Blocks.getD k default).Edges.length := of_decide_eq_false h
    refine AWp.exit ?_
    refine AWp.region ?_
    intro _
    refine round_end (k + 1) ⟨hk', upto hg (blkF_3 hI hE (firstF_none (fun a ha => hgj a (by omega))))⟩ (by repeat' (first | exact rfl | exact trivial | exact congrArg (fun z => some (AV.i64 z)) (wrap_succ hk' hbl) | refine And.intro ?_ ?_)) (by omega)
  have hk3 : ¬ (k : Int) < f.Blocks.length := of_decide_eq_false h
  refine AWp.exit ?_
  have hB : firstF (blkG f m) f.Blocks.length = 0 := firstF_none (fun j hj => hg j (by omega))
  have hF := chkF_6 hm hs hc hp hB
  have hML : (makL f).length ≤ maxLen := by
    have := mkB_len hz f.Blocks.length (Nat.le_refl _)
    unfold makL maxLen; omega
  clear hg hk h hk3
  refine AWp.seq (AWp.region ?_)
  refine CallX.pure (c_makers f hz) rfl rfl rfl ?_
  intro _
  refine AWp.seq (AWp.seq (AWp.region ?_))
  intro _
  refine AWp.block (AWp.loop (fun k : Nat => ⟨[(2, .ptr f.cells), (11, ints (makL f)), (12, .i64 k)], []⟩) (fun k => k ≤ (makL f).length ∧ ∀ j, j < k → badG f (makL f) j = 0) (fun k => (makL f).length - k) 0 ⟨Nat.zero_le _, fun j hj => absurd hj (by omega)⟩ ?_ ?_)
  · repeat' (first | exact rfl | exact trivial | refine And.intro ?_ ?_)
  intro k hk
  obtain ⟨hk, hg⟩ := hk
  refine AWp.seq (AWp.seq (AWp.region ?_))
  intro _
  refine AWp.cond (And.intro (fun h => ?_) (fun h => ?_))
  · refine AWp.skip ?_
    have hk' : k < (makL f).length := Int.ofNat_lt.1 (of_decide_eq_true h)
    have hh := c_hasR (fun j => (makL f).getD (0 + j) default) k ((makL f).getD k default) (by omega)
    rw [anyB_take (by omega)] at hh
    repeat' (first
      | refine AWp.seq ?_ | refine AWp.block ?_ | refine AWp.skip ?_ | refine AWp.exit ?_
      | refine AWp.region ?_ | refine AWp.draw mixed (by kernel_rfl) ?_
      | refine AWp.cond (And.intro (fun h => ?_) (fun h => ?_))
      | refine AWp.ret ⟨Or.inl rfl, rfl, ?_⟩
      | refine CallX.pure (c_valueMay f hz.values ((makL f).getD k default)) rfl rfl rfl ?_ | refine CallK.intro (fun _ => c_valueMay f hz.values ((makL f).getD k default)) ?_
      | refine CallX.pure (hh) rfl rfl rfl ?_ | refine CallK.intro (fun _ => hh) ?_
      | exact trivial | refine And.intro ?_ ?_ | intro _)
    all_goals first | assumption | exact Int.natCast_nonneg _ | exact Int.ofNat_lt.2 hk' | (exact tupI (hF.trans (onceF_1 ((firstF_hit (k := k) hk' hg (by rw [badG_2 (by simp_all)]; decide)).trans (badG_2 (by simp_all))) (by decide))).symm) | (have h7 := badG_7 (f := f) (L := makL f) (k := k) (by simp_all) (by simp_all); exact tupI (hF.trans (onceF_1 ((firstF_hit (k := k) hk' hg (by rw [h7]; decide)).trans h7) (by decide))).symm) | refine round_end (k + 1) ⟨hk', upto hg (badG_0 (by simp_all) (by simp_all))⟩ (by repeat' (first | exact rfl | exact trivial | exact congrArg (fun z => some (AV.i64 z)) (wrap_succ hk' hML) | refine And.intro ?_ ?_)) (by omega) | omega | (simp_all; done)
  have hk3 : ¬ (k : Int) < (makL f).length := of_decide_eq_false h
  refine AWp.exit ?_
  have hO := hF.trans (onceF_2 (firstF_none (fun j hj => hg j (by omega))))
  repeat' (first
    | refine AWp.seq ?_ | refine AWp.block ?_ | refine AWp.skip ?_ | refine AWp.exit ?_
    | refine AWp.region ?_ | refine AWp.draw mixed (by kernel_rfl) ?_
    | refine AWp.cond (And.intro (fun h => ?_) (fun h => ?_))
    | refine AWp.ret ⟨Or.inl rfl, rfl, ?_⟩
    | exact trivial | refine And.intro ?_ ?_ | intro _)
  all_goals clear hF hg
  all_goals exact tupI (by rw [hO]; grind)
end Go.Proofs.YtgkdmdfjfepcdaaDoor
