/- Contract of the document's spoilsFault. Condition: the machine may be. -/
import Derived.Test.YtdilfbdfefppbaaShpD
set_option linter.unusedVariables false
set_option linter.unusedSimpArgs false
set_option maxRecDepth 2000
namespace Go.Proofs.Ytdilfbdfefppbaa
open Go Go.Abs Go.RowKit

theorem w100 {c : Int} (h : 0 ≤ c ∧ c < 2) : IntKind.i64.wrap (100 * c) = 100 * c := wrap_in (by omega) (by omega)
theorem w100a {c n : Int} (h : 0 ≤ c ∧ c < 2) (hn : 0 ≤ n ∧ n ≤ 10) : IntKind.i64.wrap (100 * c + n) = 100 * c + n := wrap_in (by omega) (by omega)
theorem spoG_ok {m : Mch} (hm : machF m = 0) {l : List Rg} {j : Nat} (h : spoG m l j = 0) : (0 ≤ (l.getD j default).Class ∧ (l.getD j default).Class < 2) ∧ (0 ≤ (l.getD j default).N ∧ (l.getD j default).N < 10) := by
  have := mreg_small hm (l.getD j default).Class
  unfold spoG at h
  split at h
  · cases h
  · omega
set_option maxHeartbeats 4000000 in
theorem c_spoilsFault (m : Mch) (l : List Rg) (hm : machF m = 0) (hlen : l.length ≤ maxLen) : ACallIs B.P 77 [m.av, roL 2 Rg.cells l] (.i64 (firstF (spoG m l) l.length)) := by
  refine ACallIs.enter B _ _ Try.func77 rfl rfl Try.ntmps77 Try.results77 rfl fun hreal => ?_
  clear hreal
  refine AWp.seq (AWp.region ?_)
  intro _
  refine AWp.freezeObj 2 rfl rfl ?_
  refine AWp.seq (AWp.seq (AWp.region ?_))
  intro _
  refine AWp.block (AWp.loop (fun k : Nat => ⟨[(1, roL 2 Rg.cells l), (2, .ptr m.cells), (5, .i64 k)], []⟩) (fun k => k ≤ l.length ∧ ∀ j, j < k → spoG m l j = 0) (fun k => l.length - k) 0 ⟨Nat.zero_le _, fun j hj => absurd hj (by omega)⟩ ?_ ?_)
  · repeat' (first | exact rfl | exact trivial | refine And.intro ?_ ?_)
  intro k hk
  obtain ⟨hk, hg⟩ := hk
  have hp : 0 < k → IntKind.i64.wrap ((k : Int) - 1) = (k : Int) - 1 ∧ (IntKind.i64.wrap ((k : Int) - 1)).toNat = k - 1 := fun h => by unfold maxLen at hlen; rw [wrap_in (by omega) (by omega)]; omega
  have hr := mreg_small hm (l.getD k default).Class
  have hw1 : IntKind.i64.wrap (m.reg (l.getD k default).Class - 1) = m.reg (l.getD k default).Class - 1 := wrap_in (by omega) (by omega)
  have hq : 0 < k → (0 ≤ (l.getD (k - 1) default).Class ∧ (l.getD (k - 1) default).Class < 2) ∧ (0 ≤ (l.getD (k - 1) default).N ∧ (l.getD (k - 1) default).N < 10) := fun h => spoG_ok hm (hg (k - 1) (by omega))
  have hQ : 0 ≤ (l.getD k default).Class ∧ (l.getD k default).Class < 2 → IntKind.i64.wrap (100 * (l.getD k default).Class) = 100 * (l.getD k default).Class := fun h => w100 h
  have hQ2 : (0 ≤ (l.getD k default).Class ∧ (l.getD k default).Class < 2) ∧ (0 ≤ (l.getD k default).N ∧ (l.getD k default).N ≤ 10) → IntKind.i64.wrap (100 * (l.getD k default).Class + (l.getD k default).N) = 100 * (l.getD k default).Class + (l.getD k default).N := fun h => w100a h.1 h.2
  have hR : 0 < k → IntKind.i64.wrap (100 * (l.getD (k - 1) default).Class) = 100 * (l.getD (k - 1) default).Class := fun h => w100 (hq h).1
  have hR2 : 0 < k → IntKind.i64.wrap (100 * (l.getD (k - 1) default).Class + (l.getD (k - 1) default).N) = 100 * (l.getD (k - 1) default).Class + (l.getD (k - 1) default).N := fun h => w100a (hq h).1 (by have := (hq h).2; omega)
  repeat' (first
    | refine AWp.seq ?_ | refine AWp.block ?_ | refine AWp.skip ?_ | refine AWp.exit ?_
    | refine AWp.region ?_ | refine AWp.draw mixed (by kernel_rfl) ?_
    | refine AWp.cond (And.intro (fun h => ?_) (fun h => ?_))
    | refine AWp.ret ⟨Or.inl rfl, rfl, ?_⟩
    | refine CallX.pure (c_In _ _ _) rfl rfl rfl ?_ | refine CallK.intro (fun _ => c_In _ _ _) ?_
    | exact trivial | refine And.intro ?_ ?_ | intro _)
  all_goals first | assumption | exact tupI (firstF_none (n := l.length) (fun j hj => hg j (by grind))).symm | refine tupI (Eq.trans ?_ (firstF_hit (k := k) (n := l.length) (by grind) hg ?_).symm) | refine round_end (k + 1) ⟨by grind, upto hg ?_⟩ (by repeat' (first | exact rfl | exact trivial | exact congrArg (fun z => some (AV.i64 z)) (wrap_succ (show k < l.length from by grind) hlen) | refine And.intro ?_ ?_)) (by grind) | skip
  all_goals first | assumption | ((try clear hg); (try simp only [Int.toNat_natCast, Bool.cond_true_left, Bool.cond_false_right, Bool.or_eq_true, Bool.and_eq_true, Bool.or_eq_false_iff, Bool.and_eq_false_iff, beq_eq_false_iff_ne, Bool.not_eq_true', Bool.not_eq_false', decide_eq_true_eq, decide_eq_false_iff_not, beq_iff_eq, Mch.reg, inB] at *); (try simp only [bif_if] at *); (have hG := spoG_cases m l k; simp only [Mch.reg] at hG; rcases Nat.eq_zero_or_pos k with hz | hz <;> first | omega | ((try simp only [(hp hz).2] at *); (try simp only [(hp hz).1] at *); (try simp only [hR hz, hR2 hz] at *); first | omega | ((try rw [hQ (by omega)] at *); (try rw [hQ2 (by omega)] at *); omega))))
end Go.Proofs.Ytdilfbdfefppbaa
