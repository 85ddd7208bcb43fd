/- Contract of the document's clashes. Condition: what was checked of the instruction ahead of it. -/
import Derived.Test.YtdilfbdfefppbaaShpF
set_option linter.unusedVariables false
set_option linter.unusedSimpArgs false
namespace Go.Proofs.Ytdilfbdfefppbaa
open Go Go.Abs Go.RowKit

theorem fixN_spec {f : Fun} {x : Ins} (hf : VOk f) (h : OpsAll f x) {j : Nat} (hj : j < x.Operands.length) :
    (fixB x (x.Operands.getD j default) = true ∧ fixN f x (x.Operands.getD j default) = 100 * (fixR f x (x.Operands.getD j default)).Class + (fixR f x (x.Operands.getD j default)).N
      ∧ (0 ≤ (fixR f x (x.Operands.getD j default)).Class ∧ (fixR f x (x.Operands.getD j default)).Class < 2) ∧ (0 ≤ (fixR f x (x.Operands.getD j default)).N ∧ (fixR f x (x.Operands.getD j default)).N < 10))
    ∨ (fixB x (x.Operands.getD j default) = false ∧ fixN f x (x.Operands.getD j default) = -1) := by
  by_cases e : (tgt x (x.Operands.getD j default)).Limit = 4
  · refine .inl ⟨decide_eq_true e, ?_, ?_, ?_⟩
    · unfold fixN fixR; rw [if_pos e]; simp only [if_pos e]
    · unfold fixR; simp only [if_pos e]; exact cls_ok hf (tgt_val h hj)
    · unfold fixR; simp only [if_pos e]; exact tgt_n h hj e
  · exact .inr ⟨decide_eq_false e, by unfold fixN; rw [if_neg e]⟩
theorem q100 {c n : Int} (h : 0 ≤ c ∧ c < 2) (hn : 0 ≤ n ∧ n < 10) : (100 * c + n).tdiv 100 = c ∧ (100 * c + n).tmod 100 = n := by
  rw [Int.tdiv_eq_ediv_of_nonneg (by omega), Int.tmod_eq_emod_of_nonneg (by omega)]; omega
set_option maxHeartbeats 1000000 in
theorem c_clashes (f : Fun) (x : Ins) (hf : VOk f) (hx : OpsAll f x) : ACallIs B.P 78 [f.av, x.av] (.bool (claF f x)) := by
  have hl := hx.ok.len
  have hlen : x.Operands.length ≤ maxLen := by unfold maxLen; omega
  have hs : x.Spoils.length ≤ maxLen := by have := hx.spo; unfold maxLen; omega
  refine ACallIs.enter B _ _ Try.func78 rfl rfl Try.ntmps78 Try.results78 rfl fun hreal => ?_
  clear hreal
  refine AWp.seq (AWp.region ?_)
  intro _
  refine AWp.freezeObj 2 rfl rfl ?_
  refine AWp.freezeObj 3 rfl rfl ?_
  refine AWp.seq (AWp.seq (AWp.region ?_))
  intro _
  refine AWp.block (AWp.loop (fun k : Nat => ⟨[(2, .ptr f.cells), (3, .ptr x.cells), (5, .i64 k)], []⟩) (fun k => k ≤ x.Operands.length ∧ ∀ j, j < k → claH f x j = false) (fun k => x.Operands.length - k) 0 ⟨Nat.zero_le _, fun j hj => absurd hj (by omega)⟩ ?_ ?_)
  · repeat' (first | exact rfl | exact trivial | refine And.intro ?_ ?_)
  intro k hk
  obtain ⟨hk, hg⟩ := hk
  refine AWp.seq (AWp.seq (AWp.region ?_))
  intro _
  refine AWp.cond (And.intro (fun h => ?_) (fun h => ?_))
  · refine AWp.skip ?_
    have hk' : k < x.Operands.length := by have := of_decide_eq_true h; omega
    refine AWp.seq (AWp.block (AWp.seq (AWp.region ?_)))
    refine And.intro (fun _ => And.intro (Int.natCast_nonneg _) (Int.ofNat_lt.2 hk')) ?_
    intro _
    refine AWp.freezeObj 6 rfl rfl ?_
    refine AWp.seq (AWp.region ?_)
    refine CallX.pure (c_fxR f x hf hx k hk') rfl rfl rfl ?_
    intro _
    have hsp := fixN_spec hf hx hk'
    generalize hR : fixR f x (x.Operands.getD k default) = R at *
    generalize hB : fixB x (x.Operands.getD k default) = Bk at *
    generalize hN : fixN f x (x.Operands.getD k default) = rr at *
    have hq : Bk = true → (⟨IntKind.i64.wrap (rr.tdiv 100), rr.tmod 100⟩ : Rg) = R := fun hb => by
      rcases hsp with ⟨_, h1, h2, h3⟩ | ⟨h1, _⟩
      · rw [h1]; obtain ⟨q1, q2⟩ := q100 h2 h3; rw [q1, q2, wrap_in (by omega) (by omega)]
      · rw [hb] at h1; cases h1
    have hb0 : Bk = decide (rr ≥ 0) := by
      rcases hsp with ⟨h0, h1, h2, h3⟩ | ⟨h0, h1⟩
      · rw [h0]; exact (decide_eq_true (by omega)).symm
      · rw [h0]; exact (decide_eq_false (by omega)).symm
    repeat' (first
      | refine AWp.seq ?_ | refine AWp.block ?_ | refine AWp.skip ?_ | refine AWp.exit ?_
      | refine AWp.region ?_ | refine AWp.draw mixed (by kernel_rfl) ?_
      | refine AWp.cond (And.intro (fun h => ?_) (fun h => ?_))
      | refine AWp.ret ⟨Or.inl rfl, rfl, ?_⟩
      | refine CallX.pure (c_spoilt x ⟨IntKind.i64.wrap (rr.tdiv 100), rr.tmod 100⟩ hs) rfl rfl rfl ?_ | refine CallK.intro (fun _ => c_spoilt x ⟨IntKind.i64.wrap (rr.tdiv 100), rr.tmod 100⟩ hs) ?_
      | exact trivial | refine And.intro ?_ ?_ | intro _)
    all_goals first | assumption | (refine tupB (anyB_hit (k := k) hk' ?_).symm; (try simp only [bif_if, Int.toNat_natCast] at *); unfold claH; rw [hB, hR]; clear hg; grind) | refine AWp.loop (fun j : Nat => ⟨[(2, .ptr f.cells), (3, .ptr x.cells), (5, .i64 k), (6, .ptr (x.Operands.getD k default).cells), (7, .i64 rr), (8, .i64 j)], []⟩) (fun j => j ≤ k ∧ ∀ a, a < j → claG f x k a = false) (fun j => k - j) 0 ⟨Nat.zero_le _, fun j hj => absurd hj (by omega)⟩ ?_ ?_ | ((try simp only [bif_if, Int.toNat_natCast] at *); grind)
    · repeat' (first | exact rfl | exact trivial | refine And.intro ?_ ?_)
    intro j hj
    obtain ⟨hj, hgj⟩ := hj
    have hj0 : j < k → j < x.Operands.length := fun h => by omega
    refine AWp.seq (AWp.seq (AWp.region ?_))
    intro _
    refine AWp.cond (And.intro (fun h => ?_) (fun h => ?_))
    · refine AWp.skip ?_
      have hj' : j < k := by have := of_decide_eq_true h; omega
      refine AWp.seq (AWp.block (AWp.seq (AWp.region ?_)))
      refine And.intro (fun _ => And.intro (Int.natCast_nonneg _) (Int.ofNat_lt.2 (hj0 hj'))) ?_
      intro _
      refine AWp.freezeObj 9 rfl rfl ?_
      have hsp2 := fixN_spec hf hx (hj0 hj')
      have hfx := c_fxR f x hf hx j (hj0 hj')
      generalize hR2 : fixR f x (x.Operands.getD j default) = R2 at *
      generalize hB2 : fixB x (x.Operands.getD j default) = B2 at *
      generalize hN2 : fixN f x (x.Operands.getD j default) = r2 at *
      have hE : (Bk && B2 && (R2.Class == R.Class && R2.N == R.N)) = (decide (rr ≥ 0) && (rr == r2)) := by
        rw [Bool.eq_iff_iff]
        simp only [Bool.and_eq_true, decide_eq_true_eq, beq_iff_eq]
        rcases hsp with ⟨h1, h2, h3, h4⟩ | ⟨h1, h2⟩ <;> rcases hsp2 with ⟨g1, g2, g3, g4⟩ | ⟨g1, g2⟩ <;> simp only [h1, g1, Bool.false_eq_true, false_and, and_false, true_and, and_true, false_iff] <;> omega
      repeat' (first
        | refine AWp.seq ?_ | refine AWp.block ?_ | refine AWp.skip ?_ | refine AWp.exit ?_
        | refine AWp.region ?_ | refine AWp.draw mixed (by kernel_rfl) ?_
        | refine AWp.cond (And.intro (fun h => ?_) (fun h => ?_))
        | refine AWp.ret ⟨Or.inl rfl, rfl, ?_⟩
        | refine CallX.pure (hfx) rfl rfl rfl ?_ | refine CallK.intro (fun _ => hfx) ?_
        | refine CallX.pure (c_Apart (x.Operands.getD k default) (x.Operands.getD j default)) rfl rfl rfl ?_ | refine CallK.intro (fun _ => c_Apart (x.Operands.getD k default) (x.Operands.getD j default)) ?_
        | exact trivial | refine And.intro ?_ ?_ | intro _)
      all_goals first | assumption | (refine tupB (anyB_hit (k := k) hk' (claH_in hj' ?_)).symm) | refine round_end (j + 1) ⟨by omega, upto hgj ?_⟩ (by repeat' (first | exact rfl | exact trivial | exact congrArg (fun z => some (AV.i64 z)) (wrap_succ hj' (show k ≤ maxLen from by unfold maxLen; omega)) | refine And.intro ?_ ?_)) (by omega) | skip
      all_goals first | assumption | (clear hg hgj hsp hsp2 hq; unfold claG; rw [hB, hB2, hR, hR2]; (try simp only [bif_if, Int.toNat_natCast] at *); grind) | ((try simp only [bif_if, Int.toNat_natCast] at *); grind)
    have hj3 : ¬ (j : Int) < k := of_decide_eq_false h
    obtain rfl : j = k := by omega
    refine AWp.exit ?_
    refine AWp.region ?_
    intro _
    refine round_end (j + 1) ⟨by omega, upto hg ?_⟩ (by repeat' (first | exact rfl | exact trivial | exact congrArg (fun z => some (AV.i64 z)) (wrap_succ hk' hlen) | refine And.intro ?_ ?_)) (by omega)
    unfold claH
    rw [anyB_none hgj, hB, hR]
    clear hg hgj
    (try simp only [bif_if, Int.toNat_natCast] at *)
    grind
  have hk3 : ¬ (k : Int) < x.Operands.length := of_decide_eq_false h
  refine AWp.exit ?_
  refine AWp.seq (AWp.region ?_)
  intro _
  refine AWp.ret ⟨Or.inl rfl, rfl, ?_⟩
  intro _
  exact tupB (anyB_none (fun j hj => hg j (by omega))).symm
end Go.Proofs.Ytdilfbdfefppbaa
