/- Contract of shape.needs. Condition: what was checked of the instruction ahead of it. -/
import Derived.Test.YtdilfbdfefppbaaShpG
set_option linter.unusedVariables false
set_option linter.unusedSimpArgs false
namespace Go.Proofs.Ytdilfbdfefppbaa
open Go Go.Abs Go.RowKit

/-- How many? -/
def cntF (p : Nat → Bool) : Nat → Nat
  | 0 => 0
  | n + 1 => cntF p n + (bif p n then 1 else 0)
theorem cntF_le (p : Nat → Bool) : ∀ n, cntF p n ≤ n
  | 0 => Nat.le_refl _
  | n + 1 => by have := cntF_le p n; unfold cntF; cases p n <;> simp only [cond_true, cond_false] <;> omega
theorem cnt_hit {p : Nat → Bool} {k : Nat} (s : Nat) (h : p k = true) (hk : k + s ≤ 1000) : IntKind.i64.wrap (((s + cntF p k : Nat) : Int) + 1) = ((s + cntF p (k + 1) : Nat) : Int) := by
  have := cntF_le p k
  rw [show cntF p (k + 1) = cntF p k + 1 by show cntF p k + (bif p k then 1 else 0) = _; rw [h]; rfl, wrap_in (by omega) (by omega)]; omega
theorem cnt_miss {p : Nat → Bool} {k : Nat} (s : Nat) (h : p k = false) : ((s + cntF p k : Nat) : Int) = ((s + cntF p (k + 1) : Nat) : Int) := by
  rw [show cntF p (k + 1) = cntF p k by show cntF p k + (bif p k then 1 else 0) = _; rw [h]; rfl]
def nee1 (x : Ins) (c : Nat) (j : Nat) : Bool := (x.Spoils.getD j default).Class == (c : Int)
def nee2 (f : Fun) (x : Ins) (c : Nat) (j : Nat) : Bool := cls f (x.Operands.getD j default).Value == (c : Int) && ((x.Operands.getD j default).Limit == 2 || (x.Operands.getD j default).Limit == 4 || (x.Operands.getD j default).Limit == 5)
def nee (f : Fun) (x : Ins) (c : Nat) : Nat := cntF (nee1 x c) x.Spoils.length + cntF (nee2 f x c) x.Operands.length
set_option maxHeartbeats 1000000 in
theorem c_needs (f : Fun) (m : Mch) (x : Ins) (hx : OpsAll f x) (c : Nat) (hc : c < 2) : ACallIs B.P 71 [f.av, m.av, x.av, .i64 c] (.bool (decide ((nee f x c : Int) < m.reg c))) := by
  have hl := hx.ok.len
  have hlen : x.Operands.length ≤ maxLen := by unfold maxLen; omega
  have hs0 := hx.spo
  have hs : x.Spoils.length ≤ maxLen := by unfold maxLen; omega
  refine ACallIs.enter B _ _ Try.func71 rfl rfl Try.ntmps71 Try.results71 rfl fun hreal => ?_
  clear hreal
  refine AWp.seq (AWp.region ?_)
  intro _
  refine AWp.freezeObj 4 rfl rfl ?_
  refine AWp.freezeObj 5 rfl rfl ?_
  refine AWp.freezeObj 6 rfl rfl ?_
  refine AWp.seq (AWp.region ?_)
  intro _
  refine AWp.seq (AWp.seq (AWp.region ?_))
  intro _
  refine AWp.block (AWp.loop (fun k : Nat => ⟨[(3, .i64 c), (4, .ptr f.cells), (5, .ptr m.cells), (6, .ptr x.cells), (9, .i64 ((0 + cntF (nee1 x c) k : Nat) : Int)), (15, roL 2 Rg.cells x.Spoils), (16, .i64 x.Spoils.length), (17, .i64 k)], []⟩) (fun k => k ≤ x.Spoils.length) (fun k => x.Spoils.length - k) 0 (Nat.zero_le _) ?_ ?_)
  · repeat' (first | exact rfl | exact trivial | refine And.intro ?_ ?_)
  intro k hk
  refine AWp.seq (AWp.region ?_)
  intro _
  refine AWp.seq (AWp.cond (And.intro (fun h => ?_) (fun h => ?_)))
  · refine AWp.skip ?_
    have hk' : k < x.Spoils.length := by have := of_decide_eq_true h; omega
    repeat' (first
      | refine AWp.seq ?_ | refine AWp.block ?_ | refine AWp.skip ?_ | refine AWp.exit ?_
      | refine AWp.region ?_ | refine AWp.draw mixed (by kernel_rfl) ?_
      | refine AWp.cond (And.intro (fun h => ?_) (fun h => ?_))
      | refine AWp.ret ⟨Or.inl rfl, rfl, ?_⟩
      | exact trivial | refine And.intro ?_ ?_ | intro _)
    all_goals first | exact Int.natCast_nonneg _ | exact Int.ofNat_lt.2 hk' | refine round_end (k + 1) hk' (by repeat' (first | exact rfl | exact trivial | exact congrArg (fun z => some (AV.i64 z)) (wrap_succ hk' hs) | exact congrArg (fun z => some (AV.i64 z)) (cnt_hit (p := nee1 x c) (k := k) 0 (by assumption) (by omega)) | exact congrArg (fun z => some (AV.i64 z)) (cnt_miss (p := nee1 x c) (k := k) 0 (by assumption)) | refine And.intro ?_ ?_)) (by omega)
  have hk3 : ¬ (k : Int) < x.Spoils.length := of_decide_eq_false h
  obtain rfl : k = x.Spoils.length := by omega
  refine AWp.exit ?_
  refine AWp.seq (AWp.seq (AWp.region ?_))
  intro _
  refine AWp.block (AWp.loop (fun k : Nat => ⟨[(3, .i64 c), (4, .ptr f.cells), (5, .ptr m.cells), (9, .i64 ((cntF (nee1 x c) x.Spoils.length + cntF (nee2 f x c) k : Nat) : Int)), (29, roL 5 Opd.cells x.Operands), (30, .i64 x.Operands.length), (31, .i64 k)], []⟩) (fun k => k ≤ x.Operands.length) (fun k => x.Operands.length - k) 0 (Nat.zero_le _) ?_ ?_)
  · repeat' (first | exact rfl | exact trivial | refine And.intro ?_ ?_)
    exact congrArg (fun z => some (AV.i64 z)) (congrArg Int.ofNat (Nat.zero_add _))
  clear hk hk3 h
  intro k hk
  have hn1 := cntF_le (nee1 x c) x.Spoils.length
  refine AWp.seq (AWp.region ?_)
  intro _
  refine AWp.seq (AWp.cond (And.intro (fun h => ?_) (fun h => ?_)))
  · refine AWp.skip ?_
    have hk' : k < x.Operands.length := by have := of_decide_eq_true h; omega
    have hv := idx_ok (hx.ok.val k hk')
    have hlim := hx.ok.limit k hk'
    repeat' (first
      | refine AWp.seq ?_ | refine AWp.block ?_ | refine AWp.skip ?_ | refine AWp.exit ?_
      | refine AWp.region ?_ | refine AWp.draw mixed (by kernel_rfl) ?_
      | refine AWp.cond (And.intro (fun h => ?_) (fun h => ?_))
      | refine AWp.ret ⟨Or.inl rfl, rfl, ?_⟩
      | exact trivial | refine And.intro ?_ ?_ | intro _)
    all_goals first | assumption | exact Int.natCast_nonneg _ | exact Int.ofNat_lt.2 hk' | exact hv.1 | exact hv.2 | refine round_end (k + 1) hk' (by repeat' (first | exact rfl | exact trivial | exact congrArg (fun z => some (AV.i64 z)) (wrap_succ hk' hlen) | exact congrArg (fun z => some (AV.i64 z)) (cnt_hit (p := nee2 f x c) (k := k) _ (by simp only [nee2, cls, bif_if, Int.toNat_natCast] at *; grind) (by omega)) | exact congrArg (fun z => some (AV.i64 z)) (cnt_miss (p := nee2 f x c) (k := k) _ (by simp only [nee2, cls, bif_if, Int.toNat_natCast] at *; grind)) | refine And.intro ?_ ?_)) (by omega) | ((try simp only [bif_if, Int.toNat_natCast] at *); grind)
  have hk3 : ¬ (k : Int) < x.Operands.length := of_decide_eq_false h
  obtain rfl : k = x.Operands.length := by omega
  refine AWp.exit ?_
  repeat' (first
    | refine AWp.seq ?_ | refine AWp.block ?_ | refine AWp.skip ?_ | refine AWp.exit ?_
    | refine AWp.region ?_ | refine AWp.draw mixed (by kernel_rfl) ?_
    | refine AWp.cond (And.intro (fun h => ?_) (fun h => ?_))
    | refine AWp.ret ⟨Or.inl rfl, rfl, ?_⟩
    | exact trivial | refine And.intro ?_ ?_ | intro _)
  all_goals first | exact Int.natCast_nonneg _ | exact Int.ofNat_lt.2 hc | exact rfl
end Go.Proofs.Ytdilfbdfefppbaa
