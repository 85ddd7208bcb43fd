/- Contracts of slices.Index and Contains at api.Reg, and of the document's spoilt, and of shape.spoils and the document's spoilsFault. -/
import Derived.Test.YtdilfbdfefppbaaShpC
set_option linter.unusedVariables false
set_option linter.unusedSimpArgs false
set_option maxRecDepth 2000
namespace Go.Proofs.Ytdilfbdfefppbaa
open Go Go.Abs Go.RowKit

/-- Is there one? -/
def anyB (p : Nat → Bool) (n : Nat) : Bool := (List.range n).any p
theorem anyB_hit {p : Nat → Bool} {n k : Nat} (hk : k < n) (h : p k = true) : anyB p n = true := by
  unfold anyB; exact List.any_eq_true.2 ⟨k, List.mem_range.2 hk, h⟩
theorem anyB_none {p : Nat → Bool} {n : Nat} (h : ∀ j, j < n → p j = false) : anyB p n = false := by
  unfold anyB; rw [List.any_eq_false]; intro k hk; rw [h k (List.mem_range.1 hk)]; decide
theorem anyB_all {p : Nat → Bool} {n : Nat} (h : anyB p n = false) : ∀ j, j < n → p j = false := by
  intro j hj; unfold anyB at h; rw [List.any_eq_false] at h; exact Bool.eq_false_iff.2 (h j (List.mem_range.2 hj))
theorem anyB_congr {p q : Nat → Bool} {n : Nat} (h : ∀ j, j < n → p j = q j) : anyB p n = anyB q n := by
  by_cases e : anyB q n = true
  · rw [e]; unfold anyB at e; obtain ⟨k, hk, hq⟩ := List.any_eq_true.1 e
    have := List.mem_range.1 hk
    exact anyB_hit this (by rw [h k this]; exact hq)
  · rw [Bool.eq_false_iff.2 e]; exact anyB_none fun j hj => by rw [h j hj]; exact anyB_all (Bool.eq_false_iff.2 e) j hj
/-- The place of the first, or -1. -/
def idxF (p : Nat → Bool) (n : Nat) : Int := firstF (fun j => bif p j then (j : Int) + 1 else 0) n - 1
theorem idxF_hit {p : Nat → Bool} {n k : Nat} (hk : k < n) (hb : ∀ j, j < k → p j = false) (h : p k = true) : idxF p n = k := by
  unfold idxF; rw [firstF_hit hk (fun j hj => by simp [hb j hj]) (by simp [h]; omega)]; simp [h]
theorem idxF_none {p : Nat → Bool} {n : Nat} (h : ∀ j, j < n → p j = false) : idxF p n = -1 := by
  unfold idxF; rw [firstF_none fun j hj => by simp [h j hj]]; rfl
theorem idxF_any (p : Nat → Bool) (n : Nat) : decide (0 ≤ idxF p n) = anyB p n := by
  by_cases hz : ∀ j, j < n → p j = false
  · rw [idxF_none hz, anyB_none hz]; rfl
  · have : ∃ j, j < n ∧ p j = true := by
      apply Classical.byContradiction; intro hne; exact hz fun j hj => Bool.eq_false_iff.2 fun h0 => hne ⟨j, hj, h0⟩
    obtain ⟨k, ⟨h1, h2⟩, h3⟩ := least this
    rw [idxF_hit h1 (fun j hj => Bool.eq_false_iff.2 fun h0 => absurd (h3 j ⟨by omega, h0⟩) (by omega)) h2, anyB_hit h1 h2]
    simp

theorem upto {p : Nat → Prop} {k : Nat} (h : ∀ j, j < k → p j) (hk : p k) : ∀ j, j < k + 1 → p j := by
  intro j hj
  by_cases e : j < k
  · exact h j e
  · obtain rfl : j = k := by omega
    exact hk
theorem tupI {a b : Int} (h : a = b) : tupOf [AV.val (.int .i64 a)] = AV.val (.int .i64 b) := by rw [h]; rfl
theorem tupB {a b : Bool} (h : a = b) : tupOf [AV.val (.bool a)] = AV.val (.bool b) := by rw [h]; rfl

def isR (l : List Rg) (r : Rg) (j : Nat) : Bool := (l.getD j default).Class == r.Class && (l.getD j default).N == r.N
def oneR (l : List Rg) (r : Rg) : Bool := anyB (isR l r) l.length
set_option maxHeartbeats 1000000 in
theorem c_IndexReg (l : List Rg) (r : Rg) (hlen : l.length ≤ maxLen) : ACallIs B.P 99 [roL 2 Rg.cells l, r.av] (.i64 (idxF (isR l r) l.length)) := by
  refine ACallIs.enter B _ _ Try.func99 rfl rfl Try.ntmps99 Try.results99 rfl fun hreal => ?_
  clear hreal
  refine AWp.seq (AWp.region ?_)
  intro _
  refine AWp.seq (AWp.seq (AWp.region ?_))
  intro _
  refine AWp.block (AWp.loop (fun k : Nat => ⟨[(0, roL 2 Rg.cells l), (3, .obj 3 0), (7, .i64 l.length), (8, .i64 k)], [(3, .cells r.cells)]⟩) (fun k => k ≤ l.length ∧ ∀ j, j < k → isR l r j = false) (fun k => l.length - k) 0 ⟨Nat.zero_le _, fun j hj => absurd hj (by omega)⟩ ?_ ?_)
  · repeat' (first | exact rfl | exact trivial | refine And.intro ?_ ?_)
  intro k hk
  obtain ⟨hk, hg⟩ := hk
  repeat' (first
    | refine AWp.seq ?_ | refine AWp.block ?_ | refine AWp.skip ?_ | refine AWp.exit ?_
    | refine AWp.region ?_ | refine AWp.draw mixed (by kernel_rfl) ?_
    | refine AWp.cond (And.intro (fun h => ?_) (fun h => ?_))
    | refine AWp.ret ⟨Or.inl rfl, rfl, ?_⟩
    | exact trivial | refine And.intro ?_ ?_ | intro _)
  all_goals first | assumption | exact tupI (idxF_none (n := l.length) (fun j hj => hg j (by grind))).symm | refine tupI (idxF_hit (k := k) (n := l.length) (by grind) hg ?_).symm | refine round_end (k + 1) ⟨by grind, upto hg ?_⟩ (by repeat' (first | exact rfl | exact trivial | exact congrArg (fun z => some (AV.i64 z)) (wrap_succ (show k < l.length from by grind) hlen) | refine And.intro ?_ ?_)) (by grind) | skip
  all_goals first | assumption | ((try clear hg); (try simp only [Int.toNat_natCast, Bool.cond_true_left, Bool.cond_false_right, Bool.or_eq_true, Bool.and_eq_true, Bool.or_eq_false_iff, Bool.and_eq_false_iff, beq_eq_false_iff_ne, Bool.not_eq_true', Bool.not_eq_false', decide_eq_true_eq, decide_eq_false_iff_not, beq_iff_eq, isR] at *); (try simp only [bif_if] at *); ((skip) <;> grind))
theorem c_ContainsReg (l : List Rg) (r : Rg) (hlen : l.length ≤ maxLen) : ACallIs B.P 93 [roL 2 Rg.cells l, r.av] (.bool (oneR l r)) := by
  refine ACallIs.enter B _ _ Try.func93 rfl rfl Try.ntmps93 Try.results93 rfl fun hreal => ?_
  clear hreal
  repeat' (first
    | refine AWp.seq ?_ | refine AWp.block ?_ | refine AWp.skip ?_ | refine AWp.exit ?_
    | refine AWp.region ?_ | refine AWp.draw mixed (by kernel_rfl) ?_
    | refine AWp.cond (And.intro (fun h => ?_) (fun h => ?_))
    | refine AWp.ret ⟨Or.inl rfl, rfl, ?_⟩
    | refine CallX.pure (c_IndexReg l r hlen) rfl rfl rfl ?_ | refine CallK.intro (fun _ => c_IndexReg l r hlen) ?_
    | exact trivial | refine And.intro ?_ ?_ | intro _)
  exact tupB (idxF_any _ _)
set_option maxHeartbeats 1000000 in
theorem c_spoilt (x : Ins) (r : Rg) (hlen : x.Spoils.length ≤ maxLen) : ACallIs B.P 96 [x.av, .i64 r.Class, .i64 r.N] (.bool (oneR x.Spoils r)) := by
  unfold oneR
  refine ACallIs.enter B _ _ Try.func96 rfl rfl Try.ntmps96 Try.results96 rfl fun hreal => ?_
  clear hreal
  refine AWp.seq (AWp.region ?_)
  intro _
  refine AWp.seq (AWp.seq (AWp.region ?_))
  intro _
  refine AWp.block (AWp.loop (fun k : Nat => ⟨[(1, .i64 r.Class), (2, .i64 r.N), (3, .obj 3 0), (7, .i64 k)], [(3, .cells x.cells)]⟩) (fun k => k ≤ x.Spoils.length ∧ ∀ j, j < k → isR x.Spoils r j = false) (fun k => x.Spoils.length - k) 0 ⟨Nat.zero_le _, fun j hj => absurd hj (by omega)⟩ ?_ ?_)
  · repeat' (first | exact rfl | exact trivial | refine And.intro ?_ ?_)
  intro k hk
  obtain ⟨hk, hg⟩ := hk
  repeat' (first
    | refine AWp.seq ?_ | refine AWp.block ?_ | refine AWp.skip ?_ | refine AWp.exit ?_
    | refine AWp.region ?_ | refine AWp.draw mixed (by kernel_rfl) ?_
    | refine AWp.cond (And.intro (fun h => ?_) (fun h => ?_))
    | refine AWp.ret ⟨Or.inl rfl, rfl, ?_⟩
    | exact trivial | refine And.intro ?_ ?_ | intro _)
  all_goals first | assumption | exact tupB (anyB_none (n := x.Spoils.length) (fun j hj => hg j (by grind))).symm | refine tupB (anyB_hit (k := k) (n := x.Spoils.length) (by grind) ?_).symm | refine round_end (k + 1) ⟨by grind, upto hg ?_⟩ (by repeat' (first | exact rfl | exact trivial | exact congrArg (fun z => some (AV.i64 z)) (wrap_succ (show k < x.Spoils.length from by grind) hlen) | refine And.intro ?_ ?_)) (by grind) | skip
  all_goals first | assumption | ((try clear hg); (try simp only [Int.toNat_natCast, Bool.cond_true_left, Bool.cond_false_right, Bool.or_eq_true, Bool.and_eq_true, Bool.or_eq_false_iff, Bool.and_eq_false_iff, beq_eq_false_iff_ne, Bool.not_eq_true', Bool.not_eq_false', decide_eq_true_eq, decide_eq_false_iff_not, beq_iff_eq, isR] at *); (try simp only [bif_if] at *); ((skip) <;> grind))

def spoG (m : Mch) (l : List Rg) (j : Nat) : Int :=
  if (l.getD j default).Class < 0 ∨ 2 ≤ (l.getD j default).Class ∨ (l.getD j default).N < 0 ∨ m.reg (l.getD j default).Class ≤ (l.getD j default).N then 2
  else if 0 < j ∧ ((l.getD j default).Class < (l.getD (j - 1) default).Class ∨ ((l.getD (j - 1) default).Class = (l.getD j default).Class ∧ (l.getD j default).N ≤ (l.getD (j - 1) default).N)) then 4 else 0
theorem spoG_cases (m : Mch) (l : List Rg) (j : Nat) :
    (((l.getD j default).Class < 0 ∨ 2 ≤ (l.getD j default).Class ∨ (l.getD j default).N < 0 ∨ m.reg (l.getD j default).Class ≤ (l.getD j default).N) ∧ spoG m l j = 2)
    ∨ (¬ ((l.getD j default).Class < 0 ∨ 2 ≤ (l.getD j default).Class ∨ (l.getD j default).N < 0 ∨ m.reg (l.getD j default).Class ≤ (l.getD j default).N) ∧ (0 < j ∧ ((l.getD j default).Class < (l.getD (j - 1) default).Class ∨ ((l.getD (j - 1) default).Class = (l.getD j default).Class ∧ (l.getD j default).N ≤ (l.getD (j - 1) default).N))) ∧ spoG m l j = 4)
    ∨ (¬ ((l.getD j default).Class < 0 ∨ 2 ≤ (l.getD j default).Class ∨ (l.getD j default).N < 0 ∨ m.reg (l.getD j default).Class ≤ (l.getD j default).N) ∧ ¬ (0 < j ∧ ((l.getD j default).Class < (l.getD (j - 1) default).Class ∨ ((l.getD (j - 1) default).Class = (l.getD j default).Class ∧ (l.getD j default).N ≤ (l.getD (j - 1) default).N))) ∧ spoG m l j = 0) := by
  by_cases h1 : ((l.getD j default).Class < 0 ∨ 2 ≤ (l.getD j default).Class ∨ (l.getD j default).N < 0 ∨ m.reg (l.getD j default).Class ≤ (l.getD j default).N)
  · exact .inl ⟨h1, if_pos h1⟩
  · by_cases h2 : (0 < j ∧ ((l.getD j default).Class < (l.getD (j - 1) default).Class ∨ ((l.getD (j - 1) default).Class = (l.getD j default).Class ∧ (l.getD j default).N ≤ (l.getD (j - 1) default).N)))
    · exact .inr (.inl ⟨h1, h2, by unfold spoG; rw [if_neg h1, if_pos h2]⟩)
    · exact .inr (.inr ⟨h1, h2, by unfold spoG; rw [if_neg h1, if_neg h2]⟩)
set_option maxHeartbeats 4000000 in
theorem c_spoils (m : Mch) (l : List Rg) (hlen : l.length ≤ maxLen) : ACallIs B.P 69 [m.av, roL 2 Rg.cells l] (.i64 (firstF (spoG m l) l.length)) := by
  refine ACallIs.enter B _ _ Try.func69 rfl rfl Try.ntmps69 Try.results69 rfl fun hreal => ?_
  clear hreal
  refine AWp.seq (AWp.region ?_)
  intro _
  refine AWp.freezeObj 2 rfl rfl ?_
  refine AWp.seq (AWp.seq (AWp.region ?_))
  intro _
  refine AWp.block (AWp.loop (fun k : Nat => ⟨[(1, roL 2 Rg.cells l), (2, .ptr m.cells), (7, roL 2 Rg.cells l), (8, .i64 l.length), (9, .i64 k)], []⟩) (fun k => k ≤ l.length ∧ ∀ j, j < k → spoG m l j = 0) (fun k => l.length - k) 0 ⟨Nat.zero_le _, fun j hj => absurd hj (by omega)⟩ ?_ ?_)
  · repeat' (first | exact rfl | exact trivial | refine And.intro ?_ ?_)
  intro k hk
  obtain ⟨hk, hg⟩ := hk
  have hp : 0 < k → IntKind.i64.wrap ((k : Int) - 1) = (k : Int) - 1 ∧ (IntKind.i64.wrap ((k : Int) - 1)).toNat = k - 1 := fun h => by unfold maxLen at hlen; rw [wrap_in (by omega) (by omega)]; omega
  repeat' (first
    | refine AWp.seq ?_ | refine AWp.block ?_ | refine AWp.skip ?_ | refine AWp.exit ?_
    | refine AWp.region ?_ | refine AWp.draw mixed (by kernel_rfl) ?_
    | refine AWp.cond (And.intro (fun h => ?_) (fun h => ?_))
    | refine AWp.ret ⟨Or.inl rfl, rfl, ?_⟩
    | exact trivial | refine And.intro ?_ ?_ | intro _)
  all_goals first | assumption | exact tupI (firstF_none (n := l.length) (fun j hj => hg j (by grind))).symm | refine tupI (Eq.trans ?_ (firstF_hit (k := k) (n := l.length) (by grind) hg ?_).symm) | refine round_end (k + 1) ⟨by grind, upto hg ?_⟩ (by repeat' (first | exact rfl | exact trivial | exact congrArg (fun z => some (AV.i64 z)) (wrap_succ (show k < l.length from by grind) hlen) | refine And.intro ?_ ?_)) (by grind) | skip
  all_goals first | assumption | ((try clear hg); (try simp only [Int.toNat_natCast, Bool.cond_true_left, Bool.cond_false_right, Bool.or_eq_true, Bool.and_eq_true, Bool.or_eq_false_iff, Bool.and_eq_false_iff, beq_eq_false_iff_ne, Bool.not_eq_true', Bool.not_eq_false', decide_eq_true_eq, decide_eq_false_iff_not, beq_iff_eq, Mch.reg] at *); (try simp only [bif_if] at *); (have hG := spoG_cases m l k; simp only [Mch.reg] at hG; rcases Nat.eq_zero_or_pos k with hz | hz <;> first | omega | ((try simp only [(hp hz).2] at *); (try simp only [(hp hz).1] at *); omega)))
end Go.Proofs.Ytdilfbdfefppbaa
