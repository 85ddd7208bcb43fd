/- Contract of shape.instr. Condition: the machine may be, the values' classes, the sizes. -/
import Derived.Test.YtdilfbdfefppbaaShpH
set_option linter.unusedVariables false
set_option linter.unusedSimpArgs false
namespace Go.Proofs.Ytdilfbdfefppbaa
open Go Go.Abs Go.RowKit

def opdG (f : Fun) (m : Mch) (x : Ins) (j : Nat) : Int := opdF f m (x.Operands.getD j default)
def reuG (f : Fun) (x : Ins) (j : Nat) : Int := if (x.Operands.getD j default).Limit = 5 then reuF f x (x.Operands.getD j default) else 0
def neeG (f : Fun) (m : Mch) (x : Ins) (c : Nat) : Bool := !decide ((nee f x c : Int) < m.reg c)
def insF (f : Fun) (m : Mch) (x : Ins) : Int :=
  if x.Op < 0 ∨ 255 < x.Op then 2
  else if firstF (opdG f m x) x.Operands.length ≠ 0 then firstF (opdG f m x) x.Operands.length
  else if firstF (reuG f x) x.Operands.length ≠ 0 then firstF (reuG f x) x.Operands.length
  else if firstF (spoG m x.Spoils) x.Spoils.length ≠ 0 then firstF (spoG m x.Spoils) x.Spoils.length
  else if claF f x = true then 12
  else if anyB (neeG f m x) 2 = true then 8 else 0
theorem opdF_ok {f : Fun} {m : Mch} (hm : machF m = 0) {o : Opd} (h : opdF f m o = 0) : valB f o.Value = true ∧ (o.Kind = 1 ∨ o.Kind = 2) ∧ (1 ≤ o.Limit ∧ o.Limit ≤ 5) ∧ (o.Limit = 4 → 0 ≤ o.N ∧ o.N < 10) := by
  have hr := mreg_small hm (cls f o.Value)
  unfold opdF at h
  split at h
  · cases h
  · split at h
    · cases h
    · rename_i h1 h2
      split at h
      · cases h
      · rename_i h3
        refine ⟨by simpa using h2, by omega, by omega, fun h4 => by omega⟩
theorem opsOk_of {f : Fun} {m : Mch} (hm : machF m = 0) {x : Ins} (hl : x.Operands.length ≤ 6) (h : firstF (opdG f m x) x.Operands.length = 0) : OpsOk f x where
  len := hl
  val := fun j hj => (opdF_ok hm (firstF_zero h j hj)).1
  kind := fun j hj => (opdF_ok hm (firstF_zero h j hj)).2.1
  limit := fun j hj => (opdF_ok hm (firstF_zero h j hj)).2.2.1
  n := fun j hj => (opdF_ok hm (firstF_zero h j hj)).2.2.2
theorem opsAll_of {f : Fun} {x : Ins} (hx : OpsOk f x) (hs : x.Spoils.length ≤ 20) (h : firstF (reuG f x) x.Operands.length = 0) : OpsAll f x where
  ok := hx
  spo := hs
  reu := fun j hj h5 => by
    have := firstF_zero h j hj
    unfold reuG at this
    rw [if_pos h5] at this
    unfold reuF at this
    split at this
    · cases this
    · omega
theorem insF_op {f : Fun} {m : Mch} {x : Ins} (h : x.Op < 0 ∨ 255 < x.Op) : insF f m x = 2 := if_pos h
theorem insF_a {f : Fun} {m : Mch} {x : Ins} {v : Int} (h : ¬ (x.Op < 0 ∨ 255 < x.Op)) (ha : firstF (opdG f m x) x.Operands.length = v) (hv : v ≠ 0) : insF f m x = v := by
  unfold insF; rw [if_neg h, ha, if_pos hv]
theorem insF_b {f : Fun} {m : Mch} {x : Ins} {v : Int} (h : ¬ (x.Op < 0 ∨ 255 < x.Op)) (ha : firstF (opdG f m x) x.Operands.length = 0) (hb : firstF (reuG f x) x.Operands.length = v) (hv : v ≠ 0) : insF f m x = v := by
  unfold insF; rw [if_neg h, ha, if_neg (fun h => h rfl), hb, if_pos hv]
theorem insF_s {f : Fun} {m : Mch} {x : Ins} {v : Int} (h : ¬ (x.Op < 0 ∨ 255 < x.Op)) (ha : firstF (opdG f m x) x.Operands.length = 0) (hb : firstF (reuG f x) x.Operands.length = 0) (hc : firstF (spoG m x.Spoils) x.Spoils.length = v) (hv : v ≠ 0) : insF f m x = v := by
  unfold insF; rw [if_neg h, ha, if_neg (fun h => h rfl), hb, if_neg (fun h => h rfl), hc, if_pos hv]
theorem insF_c {f : Fun} {m : Mch} {x : Ins} (h : ¬ (x.Op < 0 ∨ 255 < x.Op)) (ha : firstF (opdG f m x) x.Operands.length = 0) (hb : firstF (reuG f x) x.Operands.length = 0) (hc : firstF (spoG m x.Spoils) x.Spoils.length = 0) (hv : claF f x = true) : insF f m x = 12 := by
  unfold insF; rw [if_neg h, ha, if_neg (fun h => h rfl), hb, if_neg (fun h => h rfl), hc, if_neg (fun h => h rfl), if_pos hv]
theorem insF_n {f : Fun} {m : Mch} {x : Ins} (h : ¬ (x.Op < 0 ∨ 255 < x.Op)) (ha : firstF (opdG f m x) x.Operands.length = 0) (hb : firstF (reuG f x) x.Operands.length = 0) (hc : firstF (spoG m x.Spoils) x.Spoils.length = 0) (hv : claF f x = false) {b : Bool} (hn : anyB (neeG f m x) 2 = b) : insF f m x = if b = true then 8 else 0 := by
  unfold insF; rw [if_neg h, ha, if_neg (fun h => h rfl), hb, if_neg (fun h => h rfl), hc, if_neg (fun h => h rfl), hv, if_neg (by decide), hn]

set_option maxHeartbeats 1000000 in
theorem c_instr (f : Fun) (m : Mch) (x : Ins) (hf : VOk f) (hm : machF m = 0) (hl : x.Operands.length ≤ 6) (hs0 : x.Spoils.length ≤ 20) : ACallIs B.P 48 [f.av, m.av, x.av] (.i64 (insF f m x)) := by
  have hlen : x.Operands.length ≤ maxLen := by unfold maxLen; omega
  have hs : x.Spoils.length ≤ maxLen := by unfold maxLen; omega
  refine ACallIs.enter B _ _ Try.func48 rfl rfl Try.ntmps48 Try.results48 rfl fun hreal => ?_
  clear hreal
  refine AWp.seq (AWp.region ?_)
  intro _
  refine AWp.freezeObj 3 rfl rfl ?_
  refine AWp.freezeObj 4 rfl rfl ?_
  refine AWp.freezeObj 5 rfl rfl ?_
  repeat' (first
    | refine AWp.seq ?_ | refine AWp.block ?_ | refine AWp.skip ?_ | refine AWp.exit ?_
    | refine AWp.region ?_ | refine AWp.draw mixed (by kernel_rfl) ?_
    | refine AWp.cond (And.intro (fun h => ?_) (fun h => ?_))
    | refine AWp.ret ⟨Or.inl rfl, rfl, ?_⟩
    | exact trivial | refine And.intro ?_ ?_ | intro _)
  all_goals first | assumption | exact tupI (insF_op (by (try simp only [bif_if] at *); grind)).symm | refine AWp.loop (fun k : Nat => ⟨[(3, .ptr f.cells), (4, .ptr m.cells), (5, .ptr x.cells), (24, roL 5 Opd.cells x.Operands), (25, .i64 x.Operands.length), (26, .i64 k)], []⟩) (fun k => k ≤ x.Operands.length ∧ ∀ j, j < k → opdG f m x j = 0) (fun k => x.Operands.length - k) 0 ⟨Nat.zero_le _, fun j hj => absurd hj (by omega)⟩ ?_ ?_ | ((try simp only [bif_if] at *); grind)
  · repeat' (first | exact rfl | exact trivial | refine And.intro ?_ ?_)
  have hop : ¬ (x.Op < 0 ∨ 255 < x.Op) := by (try simp only [bif_if] at *); grind
  intro k hk
  obtain ⟨hk, hg⟩ := hk
  refine AWp.seq (AWp.region ?_)
  intro _
  refine AWp.seq (AWp.cond (And.intro (fun h => ?_) (fun h => ?_)))
  · refine AWp.skip ?_
    have hk' : k < x.Operands.length := by have := of_decide_eq_true h; omega
    repeat' (first
      | refine AWp.seq ?_ | refine AWp.block ?_ | refine AWp.skip ?_ | refine AWp.exit ?_
      | refine AWp.region ?_ | refine AWp.draw mixed (by kernel_rfl) ?_
      | refine AWp.cond (And.intro (fun h => ?_) (fun h => ?_))
      | refine AWp.ret ⟨Or.inl rfl, rfl, ?_⟩
      | refine CallX.pure (c_operand f m (x.Operands.getD k default) hf) rfl rfl rfl ?_ | refine CallK.intro (fun _ => c_operand f m (x.Operands.getD k default) hf) ?_
      | exact trivial | refine And.intro ?_ ?_ | intro _)
    all_goals first | assumption | exact Int.natCast_nonneg _ | exact Int.ofNat_lt.2 hk' | (refine tupI (insF_a hop (firstF_hit (k := k) hk' hg ?_) ?_).symm <;> (simp only [opdG]; grind)) | refine round_end (k + 1) ⟨hk', upto hg (by simp only [opdG]; grind)⟩ (by repeat' (first | exact rfl | exact trivial | exact congrArg (fun z => some (AV.i64 z)) (wrap_succ hk' hlen) | refine And.intro ?_ ?_)) (by omega)
  have hk3 : ¬ (k : Int) < x.Operands.length := of_decide_eq_false h
  obtain rfl : k = x.Operands.length := by omega
  have hA : firstF (opdG f m x) x.Operands.length = 0 := firstF_none hg
  have hok := opsOk_of hm hl hA
  clear hg hk h hk3
  refine AWp.exit ?_
  refine AWp.seq (AWp.seq (AWp.region ?_))
  intro _
  refine AWp.block (AWp.loop (fun k : Nat => ⟨[(3, .ptr f.cells), (4, .ptr m.cells), (5, .ptr x.cells), (39, roL 5 Opd.cells x.Operands), (40, .i64 x.Operands.length), (41, .i64 k)], []⟩) (fun k => k ≤ x.Operands.length ∧ ∀ j, j < k → reuG f x j = 0) (fun k => x.Operands.length - k) 0 ⟨Nat.zero_le _, fun j hj => absurd hj (by omega)⟩ ?_ ?_)
  · repeat' (first | exact rfl | exact trivial | refine And.intro ?_ ?_)
  intro k hk
  obtain ⟨hk, hg⟩ := hk
  refine AWp.seq (AWp.region ?_)
  intro _
  refine AWp.seq (AWp.cond (And.intro (fun h => ?_) (fun h => ?_)))
  · refine AWp.skip ?_
    have hk' : k < x.Operands.length := by have := of_decide_eq_true h; omega
    repeat' (first
      | refine AWp.seq ?_ | refine AWp.block ?_ | refine AWp.skip ?_ | refine AWp.exit ?_
      | refine AWp.region ?_ | refine AWp.draw mixed (by kernel_rfl) ?_
      | refine AWp.cond (And.intro (fun h => ?_) (fun h => ?_))
      | refine AWp.ret ⟨Or.inl rfl, rfl, ?_⟩
      | refine CallX.pure (c_reuse f x (x.Operands.getD k default) hok (hok.val k hk')) rfl rfl rfl ?_ | refine CallK.intro (fun _ => c_reuse f x (x.Operands.getD k default) hok (hok.val k hk')) ?_
      | exact trivial | refine And.intro ?_ ?_ | intro _)
    all_goals first | assumption | exact Int.natCast_nonneg _ | exact Int.ofNat_lt.2 hk' | (refine tupI (insF_b hop hA ((firstF_hit (k := k) hk' hg ?_).trans ?_) ?_).symm <;> (simp only [reuG, Int.toNat_natCast] at *; grind)) | refine round_end (k + 1) ⟨hk', upto hg (by simp only [reuG, Int.toNat_natCast] at *; grind)⟩ (by repeat' (first | exact rfl | exact trivial | exact congrArg (fun z => some (AV.i64 z)) (wrap_succ hk' hlen) | refine And.intro ?_ ?_)) (by omega)
  have hk3 : ¬ (k : Int) < x.Operands.length := of_decide_eq_false h
  obtain rfl : k = x.Operands.length := by omega
  have hB : firstF (reuG f x) x.Operands.length = 0 := firstF_none hg
  have hx := opsAll_of hok hs0 hB
  clear hg hk h hk3
  refine AWp.exit ?_
  repeat' (first
    | refine AWp.seq ?_ | refine AWp.block ?_ | refine AWp.skip ?_ | refine AWp.exit ?_
    | refine AWp.region ?_ | refine AWp.draw mixed (by kernel_rfl) ?_
    | refine AWp.cond (And.intro (fun h => ?_) (fun h => ?_))
    | refine AWp.ret ⟨Or.inl rfl, rfl, ?_⟩
    | refine CallX.pure (c_spoils m x.Spoils hs) rfl rfl rfl ?_ | refine CallK.intro (fun _ => c_spoils m x.Spoils hs) ?_
    | refine CallX.pure (c_clash f x hx) rfl rfl rfl ?_ | refine CallK.intro (fun _ => c_clash f x hx) ?_
    | exact trivial | refine And.intro ?_ ?_ | intro _)
  all_goals first | assumption | exact tupI (insF_s hop hA hB rfl (by grind)).symm | exact tupI (insF_c hop hA hB (by grind) (by assumption)).symm | refine AWp.loop (fun k : Nat => ⟨[(3, .ptr f.cells), (4, .ptr m.cells), (5, .ptr x.cells), (66, .i64 k)], []⟩) (fun k => k ≤ 2 ∧ ∀ j, j < k → neeG f m x j = false) (fun k => 2 - k) 0 ⟨Nat.zero_le _, fun j hj => absurd hj (by omega)⟩ ?_ ?_
  · repeat' (first | exact rfl | exact trivial | refine And.intro ?_ ?_)
  have hS : firstF (spoG m x.Spoils) x.Spoils.length = 0 := by grind
  have hC : claF f x = false := by assumption
  intro k hk
  obtain ⟨hk, hg⟩ := hk
  have h2 : 2 ≤ maxLen := by unfold maxLen; omega
  refine AWp.seq (AWp.region ?_)
  intro _
  refine AWp.seq (AWp.cond (And.intro (fun h => ?_) (fun h => ?_)))
  · refine AWp.skip ?_
    have hk' : k < 2 := by have := of_decide_eq_true h; omega
    repeat' (first
      | refine AWp.seq ?_ | refine AWp.block ?_ | refine AWp.skip ?_ | refine AWp.exit ?_
      | refine AWp.region ?_ | refine AWp.draw mixed (by kernel_rfl) ?_
      | refine AWp.cond (And.intro (fun h => ?_) (fun h => ?_))
      | refine AWp.ret ⟨Or.inl rfl, rfl, ?_⟩
      | refine CallX.pure (c_needs f m x hx k hk') rfl rfl rfl ?_ | refine CallK.intro (fun _ => c_needs f m x hx k hk') ?_
      | exact trivial | refine And.intro ?_ ?_ | intro _)
    all_goals first | assumption | (refine tupI (insF_n hop hA hB hS hC (anyB_hit (k := k) hk' ?_)).symm; simp only [neeG]; assumption) | refine round_end (k + 1) ⟨hk', upto hg (by simp only [neeG]; assumption)⟩ (by repeat' (first | exact rfl | exact trivial | exact congrArg (fun z => some (AV.i64 z)) (wrap_succ hk' h2) | refine And.intro ?_ ?_)) (by omega)
  have hk3 : ¬ (k : Int) < 2 := of_decide_eq_false h
  obtain rfl : k = 2 := by omega
  refine AWp.exit ?_
  refine AWp.seq (AWp.region ?_)
  intro _
  refine AWp.ret ⟨Or.inl rfl, rfl, ?_⟩
  intro _
  exact tupI (insF_n hop hA hB hS hC (anyB_none hg)).symm
end Go.Proofs.Ytdilfbdfefppbaa
