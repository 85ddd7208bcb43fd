/- Contract of the document's instrFault. Condition: the machine may be, the values' classes, the sizes. -/
import Derived.Test.YtdilfbdfefppbaaShpI
set_option linter.unusedVariables false
set_option linter.unusedSimpArgs false
namespace Go.Proofs.Ytdilfbdfefppbaa
open Go Go.Abs Go.RowKit

theorem ge_neg {a b : Int} {t : Bool} (h : decide (a ≥ b) = t) : (!decide (a < b)) = t := by
  rw [← h]
  by_cases e : a < b
  · rw [decide_eq_true e, decide_eq_false (by omega)]; rfl
  · rw [decide_eq_false e, decide_eq_true (by omega)]; rfl
set_option maxHeartbeats 1000000 in
theorem c_instrFault (f : Fun) (m : Mch) (x : Ins) (hf : VOk f) (hm : machF m = 0) (hl : x.Operands.length ≤ 6) (hs0 : x.Spoils.length ≤ 20) : ACallIs B.P 52 [f.av, m.av, x.av] (.i64 (insF f m x)) := by
  have hlen : x.Operands.length ≤ maxLen := by unfold maxLen; omega
  have hs : x.Spoils.length ≤ maxLen := by unfold maxLen; omega
  refine ACallIs.enter B _ _ Try.func52 rfl rfl Try.ntmps52 Try.results52 rfl fun hreal => ?_
  clear hreal
  refine AWp.seq (AWp.region ?_)
  intro _
  refine AWp.freezeObj 3 rfl rfl ?_
  refine AWp.freezeObj 4 rfl rfl ?_
  refine AWp.freezeObj 5 rfl rfl ?_
  repeat' (first
    | refine AWp.seq ?_ | refine AWp.block ?_ | refine AWp.skip ?_ | refine AWp.exit ?_
    | refine AWp.region ?_ | refine AWp.draw mixed (by kernel_rfl) ?_
    | refine AWp.cond (And.intro (fun h => ?_) (fun h => ?_))
    | refine AWp.ret ⟨Or.inl rfl, rfl, ?_⟩
    | refine CallX.pure (c_In x.Op 0 255) rfl rfl rfl ?_ | refine CallK.intro (fun _ => c_In x.Op 0 255) ?_
    | exact trivial | refine And.intro ?_ ?_ | intro _)
  all_goals first | assumption | exact tupI (insF_op (by (try simp only [inB] at *); grind)).symm | refine AWp.loop (fun k : Nat => ⟨[(3, .ptr f.cells), (4, .ptr m.cells), (5, .ptr x.cells), (7, .i64 k)], []⟩) (fun k => k ≤ x.Operands.length ∧ ∀ j, j < k → opdG f m x j = 0) (fun k => x.Operands.length - k) 0 ⟨Nat.zero_le _, fun j hj => absurd hj (by omega)⟩ ?_ ?_ | ((try simp only [bif_if] at *); grind)
  · repeat' (first | exact rfl | exact trivial | refine And.intro ?_ ?_)
  have hop : ¬ (x.Op < 0 ∨ 255 < x.Op) := by (try simp only [inB] at *); grind
  intro k hk
  obtain ⟨hk, hg⟩ := hk
  refine AWp.seq (AWp.seq (AWp.region ?_))
  intro _
  refine AWp.cond (And.intro (fun h => ?_) (fun h => ?_))
  · refine AWp.skip ?_
    have hk' : k < x.Operands.length := by have := of_decide_eq_true h; omega
    repeat' (first
      | refine AWp.seq ?_ | refine AWp.block ?_ | refine AWp.skip ?_ | refine AWp.exit ?_
      | refine AWp.region ?_ | refine AWp.draw mixed (by kernel_rfl) ?_
      | refine AWp.cond (And.intro (fun h => ?_) (fun h => ?_))
      | refine AWp.ret ⟨Or.inl rfl, rfl, ?_⟩
      | refine CallX.pure (c_operandFault f m (x.Operands.getD k default) hf hm) rfl rfl rfl ?_ | refine CallK.intro (fun _ => c_operandFault f m (x.Operands.getD k default) hf hm) ?_
      | exact trivial | refine And.intro ?_ ?_ | intro _)
    all_goals first | assumption | exact Int.natCast_nonneg _ | exact Int.ofNat_lt.2 hk' | (refine tupI (insF_a hop (firstF_hit (k := k) hk' hg ?_) ?_).symm <;> (simp only [opdG]; grind)) | refine round_end (k + 1) ⟨hk', upto hg (by simp only [opdG]; grind)⟩ (by repeat' (first | exact rfl | exact trivial | exact congrArg (fun z => some (AV.i64 z)) (wrap_succ hk' hlen) | refine And.intro ?_ ?_)) (by omega)
  have hk3 : ¬ (k : Int) < x.Operands.length := of_decide_eq_false h
  obtain rfl : k = x.Operands.length := by omega
  have hA : firstF (opdG f m x) x.Operands.length = 0 := firstF_none hg
  have hok := opsOk_of hm hl hA
  clear hg hk h hk3
  refine AWp.exit ?_
  refine AWp.seq (AWp.seq (AWp.region ?_))
  intro _
  refine AWp.block (AWp.loop (fun k : Nat => ⟨[(3, .ptr f.cells), (4, .ptr m.cells), (5, .ptr x.cells), (9, .i64 k)], []⟩) (fun k => k ≤ x.Operands.length ∧ ∀ j, j < k → reuG f x j = 0) (fun k => x.Operands.length - k) 0 ⟨Nat.zero_le _, fun j hj => absurd hj (by omega)⟩ ?_ ?_)
  · repeat' (first | exact rfl | exact trivial | refine And.intro ?_ ?_)
  intro k hk
  obtain ⟨hk, hg⟩ := hk
  refine AWp.seq (AWp.seq (AWp.region ?_))
  intro _
  refine AWp.cond (And.intro (fun h => ?_) (fun h => ?_))
  · refine AWp.skip ?_
    have hk' : k < x.Operands.length := by have := of_decide_eq_true h; omega
    repeat' (first
      | refine AWp.seq ?_ | refine AWp.block ?_ | refine AWp.skip ?_ | refine AWp.exit ?_
      | refine AWp.region ?_ | refine AWp.draw mixed (by kernel_rfl) ?_
      | refine AWp.cond (And.intro (fun h => ?_) (fun h => ?_))
      | refine AWp.ret ⟨Or.inl rfl, rfl, ?_⟩
      | refine CallX.pure (c_reuseFault f x (x.Operands.getD k default) hok (hok.val k hk')) rfl rfl rfl ?_ | refine CallK.intro (fun _ => c_reuseFault f x (x.Operands.getD k default) hok (hok.val k hk')) ?_
      | exact trivial | refine And.intro ?_ ?_ | intro _)
    all_goals first | assumption | exact Int.natCast_nonneg _ | exact Int.ofNat_lt.2 hk' | (refine tupI (insF_b hop hA ((firstF_hit (k := k) hk' hg ?_).trans ?_) ?_).symm <;> (simp only [reuG, Int.toNat_natCast] at *; grind)) | refine round_end (k + 1) ⟨hk', upto hg (by simp only [reuG, Int.toNat_natCast] at *; grind)⟩ (by repeat' (first | exact rfl | exact trivial | exact congrArg (fun z => some (AV.i64 z)) (wrap_succ hk' hlen) | refine And.intro ?_ ?_)) (by omega)
  have hk3 : ¬ (k : Int) < x.Operands.length := of_decide_eq_false h
  obtain rfl : k = x.Operands.length := by omega
  have hB : firstF (reuG f x) x.Operands.length = 0 := firstF_none hg
  have hx := opsAll_of hok hs0 hB
  clear hg hk h hk3
  refine AWp.exit ?_
  repeat' (first
    | refine AWp.seq ?_ | refine AWp.block ?_ | refine AWp.skip ?_ | refine AWp.exit ?_
    | refine AWp.region ?_ | refine AWp.draw mixed (by kernel_rfl) ?_
    | refine AWp.cond (And.intro (fun h => ?_) (fun h => ?_))
    | refine AWp.ret ⟨Or.inl rfl, rfl, ?_⟩
    | refine CallX.pure (c_spoilsFault m x.Spoils hm hs) rfl rfl rfl ?_ | refine CallK.intro (fun _ => c_spoilsFault m x.Spoils hm hs) ?_
    | refine CallX.pure (c_clashes f x hf hx) rfl rfl rfl ?_ | refine CallK.intro (fun _ => c_clashes f x hf hx) ?_
    | exact trivial | refine And.intro ?_ ?_ | intro _)
  all_goals first | assumption | exact tupI (insF_s hop hA hB rfl (by grind)).symm | exact tupI (insF_c hop hA hB (by grind) (by assumption)).symm | refine AWp.loop (fun k : Nat => ⟨[(3, .ptr f.cells), (4, .ptr m.cells), (5, .ptr x.cells), (12, .i64 k)], []⟩) (fun k => k ≤ 2 ∧ ∀ j, j < k → neeG f m x j = false) (fun k => 2 - k) 0 ⟨Nat.zero_le _, fun j hj => absurd hj (by omega)⟩ ?_ ?_
  · repeat' (first | exact rfl | exact trivial | refine And.intro ?_ ?_)
  have hS : firstF (spoG m x.Spoils) x.Spoils.length = 0 := by grind
  have hC : claF f x = false := by assumption
  intro c hc
  obtain ⟨hc, hg⟩ := hc
  have h2 : 2 ≤ maxLen := by unfold maxLen; omega
  refine AWp.seq (AWp.seq (AWp.region ?_))
  intro _
  refine AWp.cond (And.intro (fun h => ?_) (fun h => ?_))
  · refine AWp.skip ?_
    have hc' : c < 2 := by have := of_decide_eq_true h; omega
    refine AWp.seq (AWp.block ?_)
    refine AWp.seq (AWp.region ?_)
    intro _
    refine AWp.seq (AWp.seq (AWp.region ?_))
    intro _
    refine AWp.block (AWp.loop (fun k : Nat => ⟨[(3, .ptr f.cells), (4, .ptr m.cells), (5, .ptr x.cells), (12, .i64 c), (13, .i64 ((0 + cntF (nee1 x c) k : Nat) : Int)), (14, .i64 k)], []⟩) (fun k => k ≤ x.Spoils.length) (fun k => x.Spoils.length - k) 0 (Nat.zero_le _) ?_ ?_)
    · repeat' (first | exact rfl | exact trivial | refine And.intro ?_ ?_)
    intro k hk
    refine AWp.seq (AWp.seq (AWp.region ?_))
    intro _
    refine AWp.cond (And.intro (fun h => ?_) (fun h => ?_))
    · refine AWp.skip ?_
      have hk' : k < x.Spoils.length := by have := of_decide_eq_true h; omega
      repeat' (first
        | refine AWp.seq ?_ | refine AWp.block ?_ | refine AWp.skip ?_ | refine AWp.exit ?_
        | refine AWp.region ?_ | refine AWp.draw mixed (by kernel_rfl) ?_
        | refine AWp.cond (And.intro (fun h => ?_) (fun h => ?_))
        | refine AWp.ret ⟨Or.inl rfl, rfl, ?_⟩
        | exact trivial | refine And.intro ?_ ?_ | intro _)
      all_goals first | exact Int.natCast_nonneg _ | exact Int.ofNat_lt.2 hk' | refine round_end (k + 1) hk' (by repeat' (first | exact rfl | exact trivial | exact congrArg (fun z => some (AV.i64 z)) (wrap_succ hk' hs) | exact congrArg (fun z => some (AV.i64 z)) (cnt_hit (p := nee1 x c) (k := k) 0 (by assumption) (by omega)) | exact congrArg (fun z => some (AV.i64 z)) (cnt_miss (p := nee1 x c) (k := k) 0 (by assumption)) | refine And.intro ?_ ?_)) (by omega)
    have hk3 : ¬ (k : Int) < x.Spoils.length := of_decide_eq_false h
    obtain rfl : k = x.Spoils.length := by omega
    refine AWp.exit ?_
    refine AWp.seq (AWp.seq (AWp.region ?_))
    intro _
    refine AWp.block (AWp.loop (fun k : Nat => ⟨[(3, .ptr f.cells), (4, .ptr m.cells), (5, .ptr x.cells), (12, .i64 c), (13, .i64 ((cntF (nee1 x c) x.Spoils.length + cntF (nee2 f x c) k : Nat) : Int)), (15, .i64 k)], []⟩) (fun k => k ≤ x.Operands.length) (fun k => x.Operands.length - k) 0 (Nat.zero_le _) ?_ ?_)
    · repeat' (first | exact rfl | exact trivial | refine And.intro ?_ ?_)
      exact congrArg (fun z => some (AV.i64 z)) (congrArg Int.ofNat (Nat.zero_add _))
    clear hk hk3 h
    intro k hk
    have hn1 := cntF_le (nee1 x c) x.Spoils.length
    refine AWp.seq (AWp.seq (AWp.region ?_))
    intro _
    refine AWp.cond (And.intro (fun h => ?_) (fun h => ?_))
    · refine AWp.skip ?_
      have hk' : k < x.Operands.length := by have := of_decide_eq_true h; omega
      have hv := hx.ok.val k hk'
      clear hg
      repeat' (first
        | refine AWp.seq ?_ | refine AWp.block ?_ | refine AWp.skip ?_ | refine AWp.exit ?_
        | refine AWp.region ?_ | refine AWp.draw mixed (by kernel_rfl) ?_
        | refine AWp.cond (And.intro (fun h => ?_) (fun h => ?_))
        | refine AWp.ret ⟨Or.inl rfl, rfl, ?_⟩
        | refine CallX.pure (c_classOf f (x.Operands.getD k default).Value hv) rfl rfl rfl ?_ | refine CallK.intro (fun _ => c_classOf f (x.Operands.getD k default).Value hv) ?_
        | exact trivial | refine And.intro ?_ ?_ | intro _)
      all_goals first | assumption | exact Int.natCast_nonneg _ | exact Int.ofNat_lt.2 hk' | refine round_end (k + 1) hk' (by repeat' (first | exact rfl | exact trivial | exact congrArg (fun z => some (AV.i64 z)) (wrap_succ hk' hlen) | exact congrArg (fun z => some (AV.i64 z)) (cnt_hit (p := nee2 f x c) (k := k) _ (by simp only [nee2, bif_if, Int.toNat_natCast] at *; grind) (by omega)) | exact congrArg (fun z => some (AV.i64 z)) (cnt_miss (p := nee2 f x c) (k := k) _ (by simp only [nee2, bif_if, Int.toNat_natCast] at *; grind)) | refine And.intro ?_ ?_)) (by omega) | ((try simp only [bif_if, Int.toNat_natCast] at *); grind)
    have hk3 : ¬ (k : Int) < x.Operands.length := of_decide_eq_false h
    obtain rfl : k = x.Operands.length := by omega
    refine AWp.exit ?_
    repeat' (first
      | refine AWp.seq ?_ | refine AWp.block ?_ | refine AWp.skip ?_ | refine AWp.exit ?_
      | refine AWp.region ?_ | refine AWp.draw mixed (by kernel_rfl) ?_
      | refine AWp.cond (And.intro (fun h => ?_) (fun h => ?_))
      | refine AWp.ret ⟨Or.inl rfl, rfl, ?_⟩
      | exact trivial | refine And.intro ?_ ?_ | intro _)
    all_goals first | exact Int.natCast_nonneg _ | exact Int.ofNat_lt.2 hc' | (refine tupI (insF_n hop hA hB hS hC (anyB_hit (k := c) hc' ?_)).symm; simp only [neeG]; exact ge_neg (a := (nee f x c : Int)) (b := m.reg c) (by assumption)) | refine round_end (c + 1) ⟨hc', upto hg (by simp only [neeG]; exact ge_neg (a := (nee f x c : Int)) (b := m.reg c) (by assumption))⟩ (by repeat' (first | exact rfl | exact trivial | exact congrArg (fun z => some (AV.i64 z)) (wrap_succ hc' h2) | refine And.intro ?_ ?_)) (by omega)
  have hk3 : ¬ (c : Int) < 2 := of_decide_eq_false h
  obtain rfl : c = 2 := by omega
  refine AWp.exit ?_
  refine AWp.seq (AWp.region ?_)
  intro _
  refine AWp.ret ⟨Or.inl rfl, rfl, ?_⟩
  intro _
  exact tupI (insF_n hop hA hB hS hC (anyB_none hg)).symm
end Go.Proofs.Ytdilfbdfefppbaa
