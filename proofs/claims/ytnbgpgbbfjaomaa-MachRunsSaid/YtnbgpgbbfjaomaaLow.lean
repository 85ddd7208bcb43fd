/- Contracts of the smallest functions. Conditions: as each says. -/
import Derived.Test.YtnbgpgbbfjaomaaTab
set_option linter.unusedVariables false
set_option linter.unusedSimpArgs false
/- Contracts of the smallest functions: In, value, classOf, Meet, Apart, CheckMachine, MachineFault. No condition. -/
namespace Go.Proofs.Ytnbgpgbbfjaomaa
open Go Go.Abs Go.RowKit

theorem bif_if {α : Type} (b : Bool) (x y : α) : (bif b then x else y) = if b = true then x else y := by cases b <;> rfl
/-- The first answer that is not 0. -/
def firstF (g : Nat → Int) : Nat → Int
  | 0 => 0
  | n + 1 => if g 0 ≠ 0 then g 0 else firstF (fun i => g (i + 1)) n
theorem firstF_hit : ∀ {n : Nat} {g : Nat → Int} {k : Nat}, k < n → (∀ j, j < k → g j = 0) → g k ≠ 0 → firstF g n = g k
  | 0, _, _, h, _, _ => by omega
  | n + 1, g, 0, _, _, h => by unfold firstF; rw [if_pos h]
  | n + 1, g, k + 1, hk, hj, h => by
    unfold firstF
    rw [if_neg (by simpa using hj 0 (by omega))]
    exact firstF_hit (g := fun i => g (i + 1)) (by omega) (fun j hj' => hj (j + 1) (by omega)) h
theorem firstF_none : ∀ {n : Nat} {g : Nat → Int}, (∀ j, j < n → g j = 0) → firstF g n = 0
  | 0, _, _ => rfl
  | n + 1, g, h => by
    unfold firstF
    rw [if_neg (by simpa using h 0 (by omega))]
    exact firstF_none fun j hj => h (j + 1) (by omega)
theorem firstF_zero : ∀ {n : Nat} {g : Nat → Int}, firstF g n = 0 → ∀ j, j < n → g j = 0
  | 0, _, _, _, h => by omega
  | n + 1, g, h, j, hj => by
    unfold firstF at h
    split at h
    · rename_i hne; exact absurd h hne
    · rename_i h0
      cases j with
      | zero => simpa using h0
      | succ j => exact firstF_zero (g := fun i => g (i + 1)) h j (by omega)
theorem firstF_congr {g g' : Nat → Int} : ∀ {n : Nat}, (∀ j, j < n → g j = g' j) → firstF g n = firstF g' n := by
  intro n h
  by_cases hz : ∀ j, j < n → g j = 0
  · rw [firstF_none hz, firstF_none fun j hj => by rw [← h j hj]; exact hz j hj]
  · have : ∃ j, j < n ∧ g j ≠ 0 := by
      apply Classical.byContradiction; intro hne; exact hz fun j hj => Classical.byContradiction fun h0 => hne ⟨j, hj, h0⟩
    obtain ⟨k, ⟨h1, h2⟩, h3⟩ := least this
    have hb : ∀ j, j < k → g j = 0 := fun j hj => Classical.byContradiction fun h0 => absurd (h3 j ⟨by omega, h0⟩) (by omega)
    rw [firstF_hit h1 hb h2, firstF_hit h1 (fun j hj => by rw [← h j (by omega)]; exact hb j hj) (by rw [← h k h1]; exact h2), h k h1]

def inB (n lo hi : Int) : Bool := decide (lo ≤ n) && decide (n ≤ hi)
def apartB (a b : Opd) : Bool :=
  if a.Kind = 1 ∧ b.Kind = 1 then a.Value != b.Value
  else if a.Kind = 2 ∧ b.Kind = 2 then true
  else if a.Kind = 2 then b.Late || !a.Late
  else a.Late || !b.Late
def machF (m : Mch) : Int := if inB m.r0 2 10 && inB m.r1 2 10 then 0 else 2

theorem c_In (n low high : Int) : ACallIs B.P 49 [.i64 n, .i64 low, .i64 high] (.bool (inB n low high)) := by
  refine ACallIs.enter B _ _ Try.func49 rfl rfl Try.ntmps49 Try.results49 rfl fun hreal => ?_
  repeat' (first
    | refine AWp.seq ?_ | refine AWp.block ?_ | refine AWp.skip ?_ | refine AWp.exit ?_
    | refine AWp.region ?_ | refine AWp.draw mixed (by kernel_rfl) ?_
    | refine AWp.cond (And.intro (fun h => ?_) (fun h => ?_))
    | refine AWp.ret ⟨Or.inl rfl, rfl, ?_⟩
    | exact trivial | refine And.intro ?_ ?_ | intro _)
  all_goals first | assumption | simp_all [tupOf, inB]

theorem c_Meet1 (a b : Opd) (h2 : ¬ a.Kind = 2 ∨ b.Kind = 2) : ACallIs B.P 146 [a.av, b.av] (.bool (apartB a b)) := by
  refine ACallIs.enter B _ _ Try.func146 rfl rfl Try.ntmps146 Try.results146 rfl fun hreal => ?_
  repeat' (first
    | refine AWp.seq ?_ | refine AWp.block ?_ | refine AWp.skip ?_ | refine AWp.exit ?_
    | refine AWp.region ?_ | refine AWp.draw mixed (by kernel_rfl) ?_
    | refine AWp.cond (And.intro (fun h => ?_) (fun h => ?_))
    | refine AWp.ret ⟨Or.inl rfl, rfl, ?_⟩
    | exact trivial | refine And.intro ?_ ?_ | intro _)
  all_goals first | assumption | (exfalso; simp_all; done) | (simp_all [tupOf, apartB]; done) | skip
theorem c_Meet (a b : Opd) : ACallIs B.P 146 [a.av, b.av] (.bool (apartB a b)) := by
  by_cases h2 : ¬ a.Kind = 2 ∨ b.Kind = 2
  · exact c_Meet1 a b h2
  have h3 : a.Kind = 2 ∧ ¬ b.Kind = 2 := by simp at h2; exact h2
  have hm := c_Meet1 b a (.inl h3.2)
  refine ACallIs.enter B _ _ Try.func146 rfl rfl Try.ntmps146 Try.results146 rfl fun hreal => ?_
  repeat' (first
    | refine AWp.seq ?_ | refine AWp.block ?_ | refine AWp.skip ?_ | refine AWp.exit ?_
    | refine AWp.region ?_ | refine AWp.draw mixed (by kernel_rfl) ?_
    | refine AWp.cond (And.intro (fun h => ?_) (fun h => ?_))
    | refine AWp.ret ⟨Or.inl rfl, rfl, ?_⟩
    | refine CallX.pure (hm) rfl rfl rfl ?_ | refine CallK.intro (fun _ => hm) ?_
    | exact trivial | refine And.intro ?_ ?_ | intro _)
  all_goals first | assumption | (exfalso; simp_all; done) | (simp_all [tupOf, apartB]; done) | skip
theorem c_Apart (a b : Opd) : ACallIs B.P 142 [a.av, b.av] (.bool (apartB a b)) := by
  refine ACallIs.enter B _ _ Try.func142 rfl rfl Try.ntmps142 Try.results142 rfl fun hreal => ?_
  repeat' (first
    | refine AWp.seq ?_ | refine AWp.block ?_ | refine AWp.skip ?_ | refine AWp.exit ?_
    | refine AWp.region ?_ | refine AWp.draw mixed (by kernel_rfl) ?_
    | refine AWp.cond (And.intro (fun h => ?_) (fun h => ?_))
    | refine AWp.ret ⟨Or.inl rfl, rfl, ?_⟩
    | exact trivial | refine And.intro ?_ ?_ | intro _)
  all_goals first | assumption | (exfalso; simp_all; done) | (simp_all [tupOf, apartB]; done) | skip
end Go.Proofs.Ytnbgpgbbfjaomaa

/- Contracts of shape.CheckMachine and ostlerref.MachineFault, and of the laws ShapeMachines and ShapeMeets: they hand back true. No condition. -/
namespace Go.Proofs.Ytnbgpgbbfjaomaa
open Go Go.Abs Go.RowKit

theorem c_CheckMachine (m : Mch) : ACallIs B.P 110 [m.av] (.i64 (machF m)) := by
  refine ACallIs.enter B _ _ Try.func110 rfl rfl Try.ntmps110 Try.results110 rfl fun hreal => ?_
  refine AWp.seq (AWp.region ?_)
  intro _
  refine AWp.seq (AWp.seq (AWp.region ?_))
  intro _
  refine AWp.block (AWp.loop (fun k : Nat => ⟨[(6, .agg m.cells), (7, .i64 k)], [(1, .cells m.cells)]⟩) (fun k => k ≤ 2 ∧ (1 ≤ k → inB m.r0 2 10 = true) ∧ (2 ≤ k → inB m.r1 2 10 = true)) (fun k => 2 - k) 0 (by simp) ?_ ?_)
  · repeat' (first | exact rfl | exact trivial | refine And.intro ?_ ?_)
  intro k hk
  obtain rfl | rfl | rfl : k = 0 ∨ k = 1 ∨ k = 2 := by omega
  all_goals
    repeat' (first
      | refine AWp.seq ?_ | refine AWp.block ?_ | refine AWp.skip ?_ | refine AWp.exit ?_
      | refine AWp.region ?_ | refine AWp.draw mixed (by kernel_rfl) ?_
      | refine AWp.cond (And.intro (fun h => ?_) (fun h => ?_))
      | refine AWp.ret ⟨Or.inl rfl, rfl, ?_⟩
      | exact trivial | refine And.intro ?_ ?_ | intro _)
  all_goals first | assumption | (exfalso; simp_all; done) | (simp; done) | (show (_ : Bool) = _; simp_all; done) | skip
  · simp [tupOf, machF, inB] at *; omega
  · refine round_end 1 ?_ ?_ ?_
    · simp [inB] at *; omega
    · repeat' (first | exact rfl | exact trivial | refine And.intro ?_ ?_)
    · omega
  · simp [tupOf, machF, inB] at *; omega
  · refine round_end 2 ?_ ?_ ?_
    · simp [inB] at *; omega
    · repeat' (first | exact rfl | exact trivial | refine And.intro ?_ ?_)
    · omega
  · simp [tupOf, machF, inB] at *; omega

theorem c_MachineFault (m : Mch) : ACallIs B.P 100 [m.av] (.i64 (machF m)) := by
  refine ACallIs.enter B _ _ Try.func100 rfl rfl Try.ntmps100 Try.results100 rfl fun hreal => ?_
  refine AWp.seq (AWp.region ?_)
  intro _
  refine AWp.seq (AWp.seq (AWp.region ?_))
  intro _
  refine AWp.block (AWp.loop (fun k : Nat => ⟨[(3, .i64 k), (1, .obj 1 0)], [(1, .cells m.cells)]⟩) (fun k => k ≤ 2 ∧ (1 ≤ k → inB m.r0 2 10 = true) ∧ (2 ≤ k → inB m.r1 2 10 = true)) (fun k => 2 - k) 0 (by simp) ?_ ?_)
  · repeat' (first | exact rfl | exact trivial | refine And.intro ?_ ?_)
  intro k hk
  obtain rfl | rfl | rfl : k = 0 ∨ k = 1 ∨ k = 2 := by omega
  all_goals
    repeat' (first
      | refine AWp.seq ?_ | refine AWp.block ?_ | refine AWp.skip ?_ | refine AWp.exit ?_
      | refine AWp.region ?_ | refine AWp.draw mixed (by kernel_rfl) ?_
      | refine AWp.cond (And.intro (fun h => ?_) (fun h => ?_))
      | refine AWp.ret ⟨Or.inl rfl, rfl, ?_⟩
      | refine CallX.pure (c_In _ _ _) rfl rfl rfl ?_ | refine CallK.intro (fun _ => c_In _ _ _) ?_
      | exact trivial | refine And.intro ?_ ?_ | intro _)
  all_goals first | assumption | (exfalso; simp_all; done) | (simp; done) | (show (_ : Bool) = _; simp_all; done) | skip
  · simp [tupOf, machF, inB] at *; omega
  · refine round_end 1 ?_ ?_ ?_
    · simp [inB] at *; omega
    · repeat' (first | exact rfl | exact trivial | refine And.intro ?_ ?_)
    · omega
  · simp [tupOf, machF, inB] at *; omega
  · refine round_end 2 ?_ ?_ ?_
    · simp [inB] at *; omega
    · repeat' (first | exact rfl | exact trivial | refine And.intro ?_ ?_)
    · omega
  · simp [tupOf, machF, inB] at *; omega

end Go.Proofs.Ytnbgpgbbfjaomaa

/- Contracts of ints, sameInts, run.Mix and ostlerref.Mixed: one same number. Condition of ints: the row is no longer than 2^44 numbers. -/
namespace Go.Proofs.Ytnbgpgbbfjaomaa
open Go Go.Abs Go.RowKit

def mixStep (x n : Int) : Int := (x * 31 + n.tmod 1000003 + 1000003).tmod 1000003
def mixF (l : List Int) : Int := l.foldl mixStep 7
theorem mixStep_range {x n : Int} (h : 0 ≤ x ∧ x < 1000003) : 0 ≤ mixStep x n ∧ mixStep x n < 1000003 := by
  have h1 : -1000003 < n.tmod 1000003 := by have := Int.lt_tmod_of_pos n (b := 1000003) (by decide); omega
  unfold mixStep
  have h2 : 0 ≤ x * 31 + n.tmod 1000003 + 1000003 := by omega
  exact ⟨Int.tmod_nonneg _ h2, Int.tmod_lt_of_pos _ (by decide)⟩
theorem foldl_range : ∀ (l : List Int) (x : Int), (0 ≤ x ∧ x < 1000003) → 0 ≤ l.foldl mixStep x ∧ l.foldl mixStep x < 1000003
  | [], _, h => h
  | _ :: l, _, h => foldl_range l _ (mixStep_range h)
theorem mixF_range (l : List Int) : 0 ≤ mixF l ∧ mixF l < 1000003 := foldl_range l 7 (by decide)
theorem take_succ_getD {α : Type} [Inhabited α] {l : List α} {k : Nat} (h : k < l.length) : l.take (k + 1) = l.take k ++ [l.getD k default] := by
  rw [List.take_add_one, List.getD_eq_getElem?_getD, List.getElem?_eq_getElem h]; rfl
theorem mixF_succ {l : List Int} {k : Nat} (h : k < l.length) : mixF (l.take (k + 1)) = mixStep (mixF (l.take k)) (l.getD k default) := by
  unfold mixF; rw [take_succ_getD h, List.foldl_append]; rfl
theorem mixF_take_all (l : List Int) {k : Nat} (h : l.length ≤ k) : mixF (l.take k) = mixF l := by rw [List.take_of_length_le h]

theorem c_ints (l : List Int) (hl : l.length * 8 ≤ 140737488355328) : ACallIs B.P 15 [ints l] (ints l) := by
  refine ACallIs.enter B _ _ Try.func15 rfl rfl Try.ntmps15 Try.results15 rfl fun hreal => ?_
  refine AWp.seq (AWp.region ?_)
  intro _
  refine AWp.seq (AWp.region ?_)
  refine And.intro (fun i hi => rfl) ?_
  refine And.intro (by simpa using hl) ?_
  intro _
  refine AWp.freeze 4 (fun i => intC (l.getD i default)) rfl (fun i hi => rfl) ?_
  refine AWp.ret ⟨Or.inl rfl, rfl, ?_⟩
  intro _
  rfl

theorem c_Mix (l : List Int) : ACallIs B.P 108 [ints l] (.i64 (mixF l)) := by
  refine ACallIs.enter B _ _ Try.func108 rfl rfl Try.ntmps108 Try.results108 rfl fun hreal => ?_
  have hlen : l.length ≤ maxLen := hreal.1.len
  refine AWp.seq (AWp.region ?_)
  intro _
  refine AWp.seq (AWp.region ?_)
  intro _
  refine AWp.seq (AWp.seq (AWp.region ?_))
  intro _
  refine AWp.block (AWp.loop (fun k : Nat => ⟨[(6, ints l), (7, .i64 l.length), (3, .i64 (mixF (l.take k))), (8, .i64 k)], []⟩) (fun k => k ≤ l.length) (fun k => l.length - k) 0 (by simp) ?_ ?_)
  · repeat' (first | exact rfl | exact trivial | refine And.intro ?_ ?_)
  intro k hk
  have hr := mixF_range (l.take k)
  repeat' (first
    | refine AWp.seq ?_ | refine AWp.block ?_ | refine AWp.skip ?_ | refine AWp.exit ?_
    | refine AWp.region ?_ | refine AWp.draw mixed (by kernel_rfl) ?_
    | refine AWp.cond (And.intro (fun h => ?_) (fun h => ?_))
    | refine AWp.ret ⟨Or.inl rfl, rfl, ?_⟩
    | exact trivial | refine And.intro ?_ ?_ | intro _)
  all_goals first | assumption | (simp at h; omega) | (exfalso; omega) | skip
  · simp at h
    refine round_end (k + 1) (by omega) ?_ (by omega)
    have hs := mixF_succ h
    have hw : ∀ x n : Int, (0 ≤ x ∧ x < 1000003) → (IntKind.i64.wrap (IntKind.i64.wrap (IntKind.i64.wrap (x * 31) + n.tmod 1000003) + 1000003)).tmod 1000003 = mixStep x n := by
      intro x n hx
      have h1 : -1000003 < n.tmod 1000003 := by have := Int.lt_tmod_of_pos n (b := 1000003) (by decide); omega
      have h2 : n.tmod 1000003 < 1000003 := Int.tmod_lt_of_pos _ (by decide)
      rw [wrap_in (n := x * 31) (by omega) (by omega), wrap_in (n := x * 31 + _) (by omega) (by omega), wrap_in (by omega) (by omega)]
      rfl
    have hv := hw _ (l.getD k default) hr
    rw [← hs] at hv
    repeat' (first | exact rfl | exact trivial | refine And.intro ?_ ?_)
    · exact congrArg (fun z => some (AV.i64 z)) hv
    · exact congrArg (fun z => some (AV.i64 z)) (wrap_succ h hlen)
  · simp at h
    exact congrArg AV.i64 (mixF_take_all l (by omega))

theorem c_Mixed (l : List Int) : ACallIs B.P 84 [ints l] (.i64 (mixF l)) := by
  refine ACallIs.enter B _ _ Try.func84 rfl rfl Try.ntmps84 Try.results84 rfl fun hreal => ?_
  have hlen : l.length ≤ maxLen := hreal.1.len
  refine AWp.seq (AWp.region ?_)
  intro _
  refine AWp.seq (AWp.region ?_)
  intro _
  refine AWp.seq (AWp.seq (AWp.region ?_))
  intro _
  refine AWp.block (AWp.loop (fun k : Nat => ⟨[(0, ints l), (3, .i64 (mixF (l.take k))), (4, .i64 k)], []⟩) (fun k => k ≤ l.length) (fun k => l.length - k) 0 (by simp) ?_ ?_)
  · repeat' (first | exact rfl | exact trivial | refine And.intro ?_ ?_)
  intro k hk
  have hr := mixF_range (l.take k)
  repeat' (first
    | refine AWp.seq ?_ | refine AWp.block ?_ | refine AWp.skip ?_ | refine AWp.exit ?_
    | refine AWp.region ?_ | refine AWp.draw mixed (by kernel_rfl) ?_
    | refine AWp.cond (And.intro (fun h => ?_) (fun h => ?_))
    | refine AWp.ret ⟨Or.inl rfl, rfl, ?_⟩
    | exact trivial | refine And.intro ?_ ?_ | intro _)
  all_goals first | assumption | (simp at h; omega) | (exfalso; omega) | skip
  all_goals have e1 : -1000003 < (l.getD k default).tmod 1000003 := by have := Int.lt_tmod_of_pos (l.getD k default) (b := 1000003) (by decide); omega
  all_goals have e2 : (l.getD k default).tmod 1000003 < 1000003 := Int.tmod_lt_of_pos _ (by decide)
  · rename_i hk1 _ _ h _ _ _
    have hk' : k < l.length := by have := of_decide_eq_true (by assumption : decide ((k : Int) < (l.length : Int)) = true); omega
    have hs := mixF_succ hk'
    have ht : (l.getD k default).tmod 1000003 < 0 := of_decide_eq_true h
    refine round_end (k + 1) (by omega) ?_ (by omega)
    have hv : (IntKind.i64.wrap (IntKind.i64.wrap (31 * mixF (l.take k)) + IntKind.i64.wrap ((l.getD k default).tmod 1000003 + 1000003))).tmod 1000003 = mixF (l.take (k + 1)) := by
      rw [hs, wrap_in (n := 31 * _) (by omega) (by omega), wrap_in (n := _ + 1000003) (by omega) (by omega), wrap_in (by omega) (by omega)]
      unfold mixStep
      rw [show 31 * mixF (l.take k) + ((l.getD k default).tmod 1000003 + 1000003) = mixF (l.take k) * 31 + (l.getD k default).tmod 1000003 + 1000003 by omega]
    repeat' (first | exact rfl | exact trivial | refine And.intro ?_ ?_)
    · exact congrArg (fun z => some (AV.i64 z)) hv
    · exact congrArg (fun z => some (AV.i64 z)) (wrap_succ hk' hlen)
  · rename_i hk1 _ _ h _ _
    have hk' : k < l.length := by have := of_decide_eq_true (by assumption : decide ((k : Int) < (l.length : Int)) = true); omega
    have hs := mixF_succ hk'
    have ht : ¬ (l.getD k default).tmod 1000003 < 0 := of_decide_eq_false h
    refine round_end (k + 1) (by omega) ?_ (by omega)
    have hv : (IntKind.i64.wrap (IntKind.i64.wrap (31 * mixF (l.take k)) + (l.getD k default).tmod 1000003)).tmod 1000003 = mixF (l.take (k + 1)) := by
      rw [hs, wrap_in (n := 31 * _) (by omega) (by omega), wrap_in (by omega) (by omega)]
      unfold mixStep
      generalize (l.getD k default).tmod 1000003 = t at *
      rw [Int.tmod_eq_emod_of_nonneg (by omega : 0 ≤ 31 * mixF (l.take k) + t), Int.tmod_eq_emod_of_nonneg (by omega : 0 ≤ mixF (l.take k) * 31 + t + 1000003), Int.add_emod_right, Int.mul_comm]
    repeat' (first | exact rfl | exact trivial | refine And.intro ?_ ?_)
    · exact congrArg (fun z => some (AV.i64 z)) hv
    · exact congrArg (fun z => some (AV.i64 z)) (wrap_succ hk' hlen)
  · rename_i h _ _
    simp at h
    exact congrArg AV.i64 (mixF_take_all l (by omega))

theorem c_sameInts (xs ys : List Int) : ACallIs B.P 35 [ints xs, ints ys] (.bool (decide (xs = ys))) := by
  refine ACallIs.enter B _ _ Try.func35 rfl rfl Try.ntmps35 Try.results35 rfl fun hreal => ?_
  have hx : xs.length ≤ maxLen := hreal.1.len
  refine AWp.seq (AWp.region ?_)
  intro _
  refine AWp.seq (AWp.seq (AWp.region ?_))
  intro _
  refine AWp.cond (And.intro (fun h => ?_) (fun h => ?_))
  · refine AWp.seq (AWp.region ?_)
    intro _
    refine AWp.ret ⟨Or.inl rfl, rfl, ?_⟩
    intro _
    refine congrArg AV.bool ?_
    simp at h
    refine (decide_eq_false ?_).symm
    rintro rfl
    exact h rfl
  have hlen : xs.length = ys.length := by simp at h; omega
  refine AWp.skip ?_
  refine AWp.seq (AWp.seq (AWp.region ?_))
  intro _
  refine AWp.block (AWp.loop (fun k : Nat => ⟨[(0, ints xs), (1, ints ys), (5, .i64 k)], []⟩) (fun k => k ≤ xs.length ∧ xs.take k = ys.take k) (fun k => xs.length - k) 0 (by simp) ?_ ?_)
  · repeat' (first | exact rfl | exact trivial | refine And.intro ?_ ?_)
  rintro k ⟨hk, ht⟩
  repeat' (first
    | refine AWp.seq ?_ | refine AWp.block ?_ | refine AWp.skip ?_ | refine AWp.exit ?_
    | refine AWp.region ?_ | refine AWp.draw mixed (by kernel_rfl) ?_
    | refine AWp.cond (And.intro (fun h => ?_) (fun h => ?_))
    | refine AWp.ret ⟨Or.inl rfl, rfl, ?_⟩
    | exact trivial | refine And.intro ?_ ?_ | intro _)
  all_goals first | assumption | (exact Int.natCast_nonneg _) | (simp at *; omega) | (exfalso; omega) | skip
  · rename_i h _ _ _
    refine congrArg AV.bool (decide_eq_false ?_).symm
    rintro rfl
    simp at h
  · rename_i hk1 _ h _
    have hk' : k < xs.length := by have := of_decide_eq_true (by assumption : decide ((k : Int) < (xs.length : Int)) = true); omega
    have h' : xs.getD k default = ys.getD k default := by simpa using h
    refine round_end (k + 1) ⟨by omega, ?_⟩ ?_ (by omega)
    · rw [take_succ_getD hk', take_succ_getD (hlen ▸ hk'), ht, h']
    repeat' (first | exact rfl | exact trivial | refine And.intro ?_ ?_)
    exact congrArg (fun z => some (AV.i64 z)) (wrap_succ hk' hx)
  · rename_i h _ _
    simp at h
    refine congrArg AV.bool (decide_eq_true ?_).symm
    rw [List.take_of_length_le (by omega), List.take_of_length_le (by omega)] at ht
    exact ht
end Go.Proofs.Ytnbgpgbbfjaomaa

/- Contracts of joinedInts, run.Made, ostlerref.madeBy, MadeOf. Condition: the rows together are no longer than 2^44 numbers. -/
namespace Go.Proofs.Ytnbgpgbbfjaomaa
open Go Go.Abs Go.RowKit

theorem row_push {xs ys : List Int} {k i : Nat} {z : Int} (hi : i < k + 1) (h1 : ∀ i, i < k → intC (ys.getD i default) = intC (xs.getD i default)) (hz : ys.getD k default = z) :
    intC (ys.getD i default) = if i < k then intC (xs.getD i default) else ([[AV.val (Value.int IntKind.i64 z)]] : List (List AV)).getD (i - k) [] := by
  split
  · exact h1 i (by assumption)
  · obtain rfl : i = k := by omega
    rw [hz, Nat.sub_self]; rfl

theorem c_joinedInts (a b : List Int) (hl : (a.length + b.length) * 8 ≤ 140737488355328) : ACallIs B.P 52 [ints a, ints b] (ints (a ++ b)) := by
  refine ACallIs.enter B _ _ Try.func52 rfl rfl Try.ntmps52 Try.results52 rfl fun hreal => ?_
  have ha : a.length ≤ maxLen := hreal.1.len
  have hb : b.length ≤ maxLen := hreal.2.1.len
  refine AWp.seq (AWp.region ?_)
  intro _
  refine AWp.seq (AWp.region ?_)
  intro _
  refine AWp.seq (AWp.seq (AWp.region ?_))
  intro _
  refine AWp.adopt 5 5 3 1 rfl rfl rfl ?_
  refine AWp.block (AWp.loop (fun k : Nat => ⟨[(0, ints a), (1, ints b), (5, .sl 5 k), (6, .i64 k)], [(5, .row 3 1 k (fun i => intC (a.getD i default)))]⟩) (fun k => k ≤ a.length) (fun k => a.length - k) 0 (by simp) ?_ ?_)
  · refine And.intro ?_ ?_
    · repeat' (first | exact rfl | exact trivial | refine And.intro ?_ ?_)
    · refine And.intro ⟨_, _, rfl, rfl, fun i hi => absurd hi (by omega)⟩ ?_
      repeat' (first | exact rfl | exact trivial | refine And.intro ?_ ?_)
  intro k hk
  refine AWp.seq (AWp.seq (AWp.region ?_))
  intro _
  refine AWp.cond (And.intro (fun h => ?_) (fun h => ?_))
  · refine AWp.skip ?_
    have hk' : k < a.length := by have := of_decide_eq_true h; omega
    refine AWp.seq (AWp.block (AWp.region ?_))
    refine And.intro (fun _ => And.intro (Int.natCast_nonneg _) (Int.ofNat_lt.2 hk')) ?_
    refine And.intro (by first | exact rfl | exact Nat.le_refl _ | exact (fun i hi => rfl) | (intro i hi; have e : i = 0 := (by omega); subst e; exact rfl) | omega) (And.intro (by first | exact rfl | exact Nat.le_refl _ | exact (fun i hi => rfl) | (intro i hi; have e : i = 0 := (by omega); subst e; exact rfl) | omega) (And.intro (by first | exact rfl | exact Nat.le_refl _ | exact (fun i hi => rfl) | (intro i hi; have e : i = 0 := (by omega); subst e; exact rfl) | omega) (And.intro (by first | exact rfl | exact Nat.le_refl _ | exact (fun i hi => rfl) | (intro i hi; have e : i = 0 := (by omega); subst e; exact rfl) | omega) ?_)))
    intro _
    refine AWp.rename 20 5 rfl rfl ?_
    refine AWp.region ?_
    intro _
    refine round_end (k + 1) (by omega) ?_ (by omega)
    refine And.intro ?_ ?_
    · repeat' (first | exact rfl | exact trivial | refine And.intro ?_ ?_)
      exact congrArg (fun z => some (AV.i64 z)) (wrap_succ hk' ha)
    · exact And.intro ⟨_, _, rfl, rfl, fun i hi => row_push hi (fun _ _ => rfl) rfl⟩ (And.intro trivial trivial)
  have hk2 : ¬ (k : Int) < a.length := of_decide_eq_false h
  obtain rfl : k = a.length := by omega
  refine AWp.exit ?_
  refine AWp.seq (AWp.seq (AWp.region ?_))
  intro _
  refine AWp.block (AWp.loop (fun k : Nat => ⟨[(1, ints b), (5, .sl 5 (a.length + k)), (7, .i64 k)], [(5, .row 3 1 (a.length + k) (fun i => intC ((a ++ b).getD i default)))]⟩) (fun k => k ≤ b.length) (fun k => b.length - k) 0 (by simp) ?_ ?_)
  · refine And.intro ?_ ?_
    · repeat' (first | exact rfl | exact trivial | refine And.intro ?_ ?_)
    · refine And.intro ⟨_, _, rfl, rfl, fun i hi => ?_⟩ (And.intro trivial trivial)
      have hi' : i < a.length := hi
      show intC _ = intC (a.getD i default)
      rw [List.getD_eq_getElem?_getD, List.getElem?_append_left hi', ← List.getD_eq_getElem?_getD]
  intro k hk
  refine AWp.seq (AWp.seq (AWp.region ?_))
  intro _
  refine AWp.cond (And.intro (fun h => ?_) (fun h => ?_))
  · refine AWp.skip ?_
    have hk' : k < b.length := by have := of_decide_eq_true h; omega
    refine AWp.seq (AWp.block (AWp.region ?_))
    refine And.intro (fun _ => And.intro (Int.natCast_nonneg _) (Int.ofNat_lt.2 hk')) ?_
    refine And.intro (by first | exact rfl | exact Nat.le_refl _ | exact (fun i hi => rfl) | (intro i hi; have e : i = 0 := (by omega); subst e; exact rfl) | omega) (And.intro (by first | exact rfl | exact Nat.le_refl _ | exact (fun i hi => rfl) | (intro i hi; have e : i = 0 := (by omega); subst e; exact rfl) | omega) (And.intro (by first | exact rfl | exact Nat.le_refl _ | exact (fun i hi => rfl) | (intro i hi; have e : i = 0 := (by omega); subst e; exact rfl) | omega) (And.intro (by first | exact rfl | exact Nat.le_refl _ | exact (fun i hi => rfl) | (intro i hi; have e : i = 0 := (by omega); subst e; exact rfl) | omega) ?_)))
    intro _
    refine AWp.rename 33 5 rfl rfl ?_
    refine AWp.region ?_
    intro _
    refine round_end (k + 1) (by omega) ?_ (by omega)
    refine And.intro ?_ ?_
    · repeat' (first | exact rfl | exact trivial | refine And.intro ?_ ?_)
      exact congrArg (fun z => some (AV.i64 z)) (wrap_succ hk' hb)
    · refine And.intro ⟨_, _, rfl, rfl, fun i hi => row_push (xs := a ++ b) hi (fun _ _ => rfl) ?_⟩ (And.intro trivial trivial)
      show (a ++ b).getD (a.length + k) default = b.getD k default
      rw [List.getD_eq_getElem?_getD, List.getElem?_append_right (by omega), Nat.add_sub_cancel_left, ← List.getD_eq_getElem?_getD]
  have hk3 : ¬ (k : Int) < b.length := of_decide_eq_false h
  obtain rfl : k = b.length := by omega
  refine AWp.exit ?_
  refine AWp.seq (AWp.region ?_)
  intro _
  refine AWp.freeze 5 (fun i => intC ((a ++ b).getD i default)) rfl (fun i hi => rfl) ?_
  refine AWp.ret ⟨Or.inl rfl, rfl, ?_⟩
  intro _
  show AV.ro 1 (a.length + b.length) _ = AV.ro 1 (a ++ b).length _
  rw [List.length_append]

theorem c_Mix_row {n : Nat} {row : Nat → List AV} (l : List Int) (hn : n = l.length) (hr : row = fun i => intC (l.getD i default)) : ACallIs B.P 108 [.ro 1 n row] (.i64 (mixF l)) := by
  subst hn hr
  exact c_Mix l
theorem row_three (a b c : Int) (l : List Int) : (fun i => if i < 3 then ([[AV.val (Value.int IntKind.i64 a)], [AV.val (Value.int IntKind.i64 b)], [AV.val (Value.int IntKind.i64 c)]] : List (List AV)).getD i [] else intC (l.getD (i - 3) default)) = fun i => intC ((a :: b :: c :: l).getD i default) := by
  funext i
  match i with
  | 0 => rfl
  | 1 => rfl
  | 2 => rfl
  | i + 3 => rfl

theorem c_Made (seed place : Int) (x : Ins) (l : List Int) (hl : (3 + l.length) * 8 ≤ 140737488355328) : ACallIs B.P 81 [.i64 seed, x.av, .i64 place, ints l] (.i64 (mixF (seed :: x.Op :: place :: l))) := by
  refine ACallIs.enter B _ _ Try.func81 rfl rfl Try.ntmps81 Try.results81 rfl fun hreal => ?_
  refine AWp.seq (AWp.region ?_)
  intro _
  refine AWp.seq (AWp.region ?_)
  refine And.intro (by first | exact rfl | exact Nat.le_refl _ | exact (fun i hi => rfl) | (intro i hi; have e : i = 0 := (by omega); subst e; exact rfl) | omega) (And.intro (by first | exact rfl | exact Nat.le_refl _ | exact (fun i hi => rfl) | (intro i hi; have e : i = 0 := (by omega); subst e; exact rfl) | omega) (And.intro (by first | exact rfl | exact Nat.le_refl _ | exact (fun i hi => rfl) | (intro i hi; have e : i = 0 := (by omega); subst e; exact rfl) | omega) ?_))
  refine CallX.pure (c_Mix_row (seed :: x.Op :: place :: l) (by simp; omega) (row_three seed x.Op place l)) rfl rfl rfl ?_
  intro _
  refine AWp.ret ⟨Or.inl rfl, rfl, ?_⟩
  intro _
  rfl

theorem c_Mixed_row {n : Nat} {row : Nat → List AV} (l : List Int) (hn : n = l.length) (hr : row = fun i => intC (l.getD i default)) : ACallIs B.P 84 [.ro 1 n row] (.i64 (mixF l)) := by
  subst hn hr
  exact c_Mixed l
theorem c_madeBy (seed place : Int) (x : Ins) (l : List Int) (hl : (3 + l.length) * 8 ≤ 140737488355328) : ACallIs B.P 53 [.i64 seed, x.av, .i64 place, ints l] (.i64 (mixF (seed :: x.Op :: place :: l))) := by
  refine ACallIs.enter B _ _ Try.func53 rfl rfl Try.ntmps53 Try.results53 rfl fun hreal => ?_
  refine AWp.seq (AWp.region ?_)
  intro _
  refine AWp.seq (AWp.regionFrz 5 13 (fun i => intC ([seed, x.Op, place].getD i default)) ?_)
  refine ⟨_, _, _, _, rfl, fun i hi => ?_, ?_⟩
  · match i, hi with
    | 0, _ => rfl
    | 1, _ => rfl
    | 2, _ => rfl
    | i + 3, hi => exact absurd hi (by omega)
  refine CallX.pure (c_joinedInts [seed, x.Op, place] l (by simp; omega)) rfl rfl rfl ?_
  refine CallX.pure (c_Mixed _) rfl rfl rfl ?_
  intro _
  refine AWp.ret ⟨Or.inl rfl, rfl, ?_⟩
  intro _
  rfl

end Go.Proofs.Ytnbgpgbbfjaomaa

/- Contracts of run.Takes, ostlerref.TakesOf and the law RunTakes. Condition: the row is no longer than 2^44 - 3 numbers. -/
namespace Go.Proofs.Ytnbgpgbbfjaomaa
open Go Go.Abs Go.RowKit

def takesF (seed : Int) (b : Blk) (at_ : Int) (l : List Int) : Int :=
  if at_ < 0 ∨ at_ ≠ (b.Instrs.length : Int) - 1 ∨ (b.Edges.length : Int) = 0 then -1
  else if (b.Edges.length : Int) = 1 then 0 else (mixF (seed :: (b.Instrs.getD at_.toNat default).Op :: -1 :: l)).tmod b.Edges.length

theorem not_of {x : Bool} (h : (true && !x) = true) : (x == false) = true := by
  cases x with
  | false => rfl
  | true => cases h
theorem takes_hc {at_ : Int} {b : Blk} (hw : IntKind.i64.wrap ((b.Instrs.length : Int) - 1) = (b.Instrs.length : Int) - 1)
    (h1 : (bif bif decide (at_ < 0) then true else at_ != IntKind.i64.wrap ((b.Instrs.length : Int) - 1) then true else (b.Edges.length : Int) == 0) = false) : ¬ (at_ < 0 ∨ at_ ≠ (b.Instrs.length : Int) - 1 ∨ (b.Edges.length : Int) = 0) := by
  rw [hw] at h1
  cases e1 : decide (at_ < 0) with
  | true => rw [e1] at h1; cases h1
  | false =>
    rw [e1] at h1
    cases e2 : (at_ != (b.Instrs.length : Int) - 1) with
    | true => rw [e2] at h1; cases h1
    | false =>
      rw [e2] at h1
      rintro (e | e | e)
      · exact of_decide_eq_false e1 e
      · exact e (by simpa using e2)
      · have h3 : ((b.Edges.length : Int) == 0) = false := h1
        rw [e] at h3; cases h3
set_option maxHeartbeats 400000 in
theorem c_Takes (seed at_ : Int) (b : Blk) (l : List Int) (hl : (3 + l.length) * 8 ≤ 140737488355328) : ACallIs B.P 82 [.i64 seed, b.av, .i64 at_, ints l] (.i64 (takesF seed b at_ l)) := by
  refine ACallIs.enter B _ _ Try.func82 rfl rfl Try.ntmps82 Try.results82 rfl fun hreal => ?_
  have hi : b.Instrs.length ≤ maxLen := (hreal.2.1.agg (j := 1) rfl).len
  have hw : IntKind.i64.wrap ((b.Instrs.length : Int) - 1) = (b.Instrs.length : Int) - 1 := by unfold maxLen at hi; exact wrap_in (by omega) (by omega)
  repeat' (first
    | refine AWp.seq ?_ | refine AWp.block ?_ | refine AWp.skip ?_ | refine AWp.exit ?_
    | refine AWp.region ?_
    | refine AWp.cond (And.intro (fun h => ?_) (fun h => ?_))
    | refine AWp.ret ⟨Or.inl rfl, rfl, ?_⟩
    | refine And.intro ?_ ?_ | intro _)
  all_goals first | assumption | exact not_of (by assumption) | skip
  · rw [hw] at h
    refine congrArg AV.i64 (if_pos ?_).symm
    cases e1 : decide (at_ < 0) with
    | true => exact .inl (of_decide_eq_true e1)
    | false =>
      rw [e1] at h
      cases e2 : (at_ != (b.Instrs.length : Int) - 1) with
      | true => exact .inr (.inl (by simpa using e2))
      | false =>
        rw [e2] at h
        exact .inr (.inr (eq_of_beq h))
  · rename_i h1 _ _ _
    have hc := takes_hc hw h1
    exact congrArg AV.i64 ((if_neg hc).trans (if_pos (eq_of_beq h))).symm
  rename_i h1 _
  have hc := takes_hc hw h1
  have hE1 : ¬ (b.Edges.length : Int) = 1 := by simpa using h
  have hE : ¬ (b.Edges.length : Int) = 0 := fun e => hc (.inr (.inr e))
  have hidx : 0 ≤ at_ ∧ at_ < (b.Instrs.length : Int) := by
    have : ¬ at_ < 0 := fun e => hc (.inl e)
    have : at_ = (b.Instrs.length : Int) - 1 := Decidable.byContradiction fun e => hc (.inr (.inl e))
    omega
  have hF : takesF seed b at_ l = (mixF (seed :: (b.Instrs.getD at_.toNat default).Op :: -1 :: l)).tmod b.Edges.length := by unfold takesF; rw [if_neg hc, if_neg hE1]
  refine AWp.quietFirst (.q 0 (.q 1 (.q 2 (.q 3 (.q 4 (.q 5 (.q 6 (.q 8 (.q 11 (.q 12 (.q 13 (.c 7 false (.c 9 false (.c 10 false (.q 14 (.q 15 .fin)) .no) .no) .no)))))))))))) [0, 1, 2, 3, 4, 5, 6, 8, 11, 12, 13, 14, 15] [5] mixed (by kernel_rfl) ?_
  refine And.intro (fun _ => hidx) ?_
  refine And.intro ?_ trivial
  refine And.intro ?_ trivial
  refine And.intro (fun i hi => rfl) (And.intro rfl (And.intro (by omega) ?_))
  refine And.intro ?_ trivial
  refine CallX.pure (c_Mix_row (seed :: (b.Instrs.getD at_.toNat default).Op :: -1 :: l) (by simp; omega) (row_three _ _ _ l)) rfl rfl rfl ?_
  refine And.intro (fun e => hE (by simpa using e)) ?_
  intro _
  refine AWp.ret ⟨Or.inl rfl, rfl, ?_⟩
  intro _
  exact congrArg AV.i64 hF.symm
set_option maxHeartbeats 400000 in
theorem c_edgeTaken (seed at_ : Int) (b : Blk) (l : List Int) (hl : (3 + l.length) * 8 ≤ 140737488355328) : ACallIs B.P 54 [.i64 seed, b.av, .i64 at_, ints l] (.i64 (takesF seed b at_ l)) := by
  refine ACallIs.enter B _ _ Try.func54 rfl rfl Try.ntmps54 Try.results54 rfl fun hreal => ?_
  have hi : b.Instrs.length ≤ maxLen := (hreal.2.1.agg (j := 1) rfl).len
  have hw : IntKind.i64.wrap ((b.Instrs.length : Int) - 1) = (b.Instrs.length : Int) - 1 := by unfold maxLen at hi; exact wrap_in (by omega) (by omega)
  repeat' (first
    | refine AWp.seq ?_ | refine AWp.block ?_ | refine AWp.skip ?_ | refine AWp.exit ?_
    | refine AWp.region ?_
    | refine AWp.cond (And.intro (fun h => ?_) (fun h => ?_))
    | refine AWp.ret ⟨Or.inl rfl, rfl, ?_⟩
    | refine And.intro ?_ ?_ | intro _)
  all_goals first | assumption | exact not_of (by assumption) | skip
  · rw [hw] at h
    refine congrArg AV.i64 (if_pos ?_).symm
    cases e1 : decide (at_ < 0) with
    | true => exact .inl (of_decide_eq_true e1)
    | false =>
      rw [e1] at h
      cases e2 : (at_ != (b.Instrs.length : Int) - 1) with
      | true => exact .inr (.inl (by simpa using e2))
      | false =>
        rw [e2] at h
        exact .inr (.inr (eq_of_beq h))
  · rename_i h1 _ _ _
    have hc := takes_hc hw h1
    exact congrArg AV.i64 ((if_neg hc).trans (if_pos (eq_of_beq h))).symm
  rename_i h1 _
  have hc := takes_hc hw h1
  have hE1 : ¬ (b.Edges.length : Int) = 1 := by simpa using h
  have hE : ¬ (b.Edges.length : Int) = 0 := fun e => hc (.inr (.inr e))
  have hidx : 0 ≤ at_ ∧ at_ < (b.Instrs.length : Int) := by
    have : ¬ at_ < 0 := fun e => hc (.inl e)
    have : at_ = (b.Instrs.length : Int) - 1 := Decidable.byContradiction fun e => hc (.inr (.inl e))
    omega
  have hF : takesF seed b at_ l = (mixF (seed :: (b.Instrs.getD at_.toNat default).Op :: -1 :: l)).tmod b.Edges.length := by unfold takesF; rw [if_neg hc, if_neg hE1]
  refine AWp.quietFirst (.q 0 (.q 1 (.q 2 (.q 3 (.q 4 (.q 5 (.q 6 (.q 8 (.q 11 (.q 12 (.q 13 (.c 7 false (.z 36 (.c 9 false (.c 10 false (.q 14 (.q 15 .fin)) .no) .no)) .no)))))))))))) [0, 1, 2, 3, 4, 5, 6, 8, 11, 12, 13, 14, 15] [5] mixed (by kernel_rfl) ?_
  refine And.intro (fun _ => hidx) ?_
  refine And.intro ?_ trivial
  refine ⟨.row 3 1 3 (fun i => intC ([seed, (b.Instrs.getD at_.toNat default).Op, -1].getD i default)), ⟨_, _, rfl, rfl, fun i hi => ?_⟩, trivial, trivial, ?_⟩
  · match i, hi with
    | 0, _ => rfl
    | 1, _ => rfl
    | 2, _ => rfl
    | i + 3, hi => exact absurd hi (by omega)
  refine And.intro ?_ trivial
  refine CallX.pure (c_joinedInts [seed, (b.Instrs.getD at_.toNat default).Op, -1] l (by simp; omega)) rfl rfl rfl ?_
  refine And.intro ?_ trivial
  refine CallX.pure (c_Mixed (seed :: (b.Instrs.getD at_.toNat default).Op :: -1 :: l)) rfl rfl rfl ?_
  refine And.intro (fun e => hE (by simpa using e)) ?_
  intro _
  refine AWp.ret ⟨Or.inl rfl, rfl, ?_⟩
  intro _
  exact congrArg AV.i64 hF.symm

end Go.Proofs.Ytnbgpgbbfjaomaa

/- Contracts of live.Starts, ostlerref.startOf, StartsOf. Condition: the function's blocks weigh no more than what came in may. -/
namespace Go.Proofs.Ytnbgpgbbfjaomaa
open Go Go.Abs Go.RowKit

def stepSt (n : Int) (b : Blk) : Int := IntKind.i64.wrap (IntKind.i64.wrap (n + 2) + IntKind.i64.wrap (2 * (b.Instrs.length : Int)))
def startF (bs : List Blk) (k : Nat) : Int := (bs.take k).foldl stepSt 0
def startsF (bs : List Blk) : List Int := (List.range (bs.length + 1)).map (startF bs)
theorem startF_succ {bs : List Blk} {k : Nat} (h : k < bs.length) : startF bs (k + 1) = stepSt (startF bs k) (bs.getD k default) := by
  unfold startF; rw [take_succ_getD h, List.foldl_append]; rfl
theorem startsF_get {bs : List Blk} {k : Nat} (h : k ≤ bs.length) : (startsF bs).getD k default = startF bs k := by
  unfold startsF; rw [List.getD_eq_getElem?_getD, List.getElem?_map, List.getElem?_range (by omega)]; rfl
theorem startsF_len (bs : List Blk) : (startsF bs).length = bs.length + 1 := by simp [startsF]

theorem c_Starts (f : Fun) (hb : f.Blocks.length * 72 ≤ 140737488351232) : ACallIs B.P 55 [f.av] (ints (startsF f.Blocks)) := by
  refine ACallIs.enter B _ _ Try.func55 rfl rfl Try.ntmps55 Try.results55 rfl fun hreal => ?_
  refine AWp.seq (AWp.region ?_)
  intro _
  refine AWp.seq (AWp.region ?_)
  intro _
  refine AWp.seq (AWp.seq (AWp.region ?_))
  intro _
  refine AWp.rename 6 3 rfl rfl ?_
  refine AWp.block (AWp.loop (fun k : Nat => ⟨[(1, .obj 1 0), (3, .sl 3 (k + 1)), (8, roL 3 Blk.cells f.Blocks), (9, .i64 f.Blocks.length), (10, .i64 k)], [(1, .cells f.cells), (3, .row 3 1 (k + 1) (fun i => intC (startF f.Blocks i)))]⟩) (fun k => k ≤ f.Blocks.length) (fun k => f.Blocks.length - k) 0 (by simp) ?_ ?_)
  · refine And.intro ?_ ?_
    · repeat' (first | exact rfl | exact trivial | refine And.intro ?_ ?_)
    · refine And.intro rfl (And.intro ?_ (And.intro ⟨_, _, rfl, rfl, fun i hi => ?_⟩ (And.intro trivial trivial)))
      · repeat' (first | exact rfl | exact trivial | refine And.intro ?_ ?_)
      · have e : i = 0 := by omega
        subst e; rfl
  intro k hk
  refine AWp.seq (AWp.region ?_)
  intro _
  refine AWp.seq (AWp.cond (And.intro (fun h => ?_) (fun h => ?_)))
  · refine AWp.skip ?_
    have hk' : k < f.Blocks.length := by have := of_decide_eq_true h; omega
    refine AWp.seq (AWp.block (AWp.seq (AWp.region ?_)))
    refine And.intro (fun _ => And.intro (Int.natCast_nonneg _) (Int.ofNat_lt.2 hk')) ?_
    intro _
    refine AWp.quietFirst (.q 0 (.q 1 (.q 2 (.q 3 (.q 4 (.q 5 (.q 6 (.q 7 (.q 8 (.q 9 (.q 10 (.q 11 (.q 12 (.c 13 false (.c 14 true (.q 15 .fin) .no) .no)))))))))))))) [0, 1, 2, 3, 4, 5, 6, 7, 8, 9, 10, 11, 12, 15] [3, 5] mixed (by kernel_rfl) ?_
    have hw : IntKind.i64.wrap (((k + 1 : Nat) : Int) - 1) = k := by rw [wrap_in (by omega) (by omega)]; omega
    refine And.intro (fun _ => ?_) ?_
    · show 0 ≤ IntKind.i64.wrap (((k + 1 : Nat) : Int) - 1) ∧ IntKind.i64.wrap (((k + 1 : Nat) : Int) - 1) < ((k + 1 : Nat) : Int)
      rw [hw]; omega
    refine And.intro (fun _ => ?_) ?_
    · show (IntKind.i64.wrap (((k + 1 : Nat) : Int) - 1)).toNat < k + 1
      rw [hw]; omega
    refine And.intro ?_ trivial
    refine And.intro ?_ trivial
    refine And.intro (Nat.le_refl _) (And.intro (fun i hi => ?_) (And.intro rfl (And.intro (by omega) ?_)))
    · have e : i = 0 := by omega
      subst e; rfl
    intro _
    refine AWp.rename 28 3 rfl rfl ?_
    refine AWp.region ?_
    intro _
    refine round_end (k + 1) (by omega) ?_ (by omega)
    have hlen : f.Blocks.length ≤ maxLen := by unfold maxLen; omega
    refine And.intro ?_ ?_
    · repeat' (first | exact rfl | exact trivial | refine And.intro ?_ ?_)
      exact congrArg (fun z => some (AV.i64 z)) (wrap_succ hk' hlen)
    · refine And.intro rfl (And.intro ?_ (And.intro ⟨_, _, rfl, rfl, fun i hi => ?_⟩ (And.intro trivial trivial)))
      · repeat' (first | exact rfl | exact trivial | refine And.intro ?_ ?_)
      · dsimp only
        by_cases e : i < k + 1
        · rw [if_pos e]
        · have e2 : i = k + 1 := by omega
          subst e2
          rw [if_neg e, startF_succ hk', Nat.sub_self]
          show _ = [AV.i64 _]
          refine congrArg (fun z => [AV.i64 z]) ?_
          show _ = IntKind.i64.wrap (IntKind.i64.wrap (startF f.Blocks ((IntKind.i64.wrap (((k + 1 : Nat) : Int) - 1)).toNat) + 2) + IntKind.i64.wrap (2 * (((f.Blocks.getD k default).Instrs.length : Nat) : Int)))
          rw [hw]; rfl
  have hk3 : ¬ (k : Int) < f.Blocks.length := of_decide_eq_false h
  obtain rfl : k = f.Blocks.length := by omega
  refine AWp.exit ?_
  refine AWp.seq (AWp.region ?_)
  intro _
  refine AWp.freeze 3 (fun i => intC ((startsF f.Blocks).getD i default)) rfl (fun i hi => by rw [startsF_get (by omega)]) ?_
  refine AWp.ret ⟨Or.inl rfl, rfl, ?_⟩
  intro _
  show AV.ro 1 (f.Blocks.length + 1) _ = AV.ro 1 (startsF f.Blocks).length _
  rw [startsF_len]

theorem c_startOf (f : Fun) (b : Nat) (hb : b ≤ f.Blocks.length) (hlen : f.Blocks.length ≤ maxLen) : ACallIs B.P 57 [f.av, .i64 b] (.i64 (startF f.Blocks b)) := by
  refine ACallIs.enter B _ _ Try.func57 rfl rfl Try.ntmps57 Try.results57 rfl fun hreal => ?_
  refine AWp.seq (AWp.region ?_)
  intro _
  refine AWp.seq (AWp.region ?_)
  intro _
  refine AWp.seq (AWp.seq (AWp.region ?_))
  intro _
  refine AWp.block (AWp.loop (fun k : Nat => ⟨[(1, .i64 b), (2, .obj 2 0), (5, .i64 (startF f.Blocks k)), (6, .i64 k)], [(2, .cells f.cells)]⟩) (fun k => k ≤ b) (fun k => b - k) 0 (by simp) ?_ ?_)
  · repeat' (first | exact rfl | exact trivial | refine And.intro ?_ ?_)
  intro k hk
  refine AWp.seq (AWp.seq (AWp.region ?_))
  intro _
  refine AWp.cond (And.intro (fun h => ?_) (fun h => ?_))
  · refine AWp.skip ?_
    have hk' : k < b := by have := of_decide_eq_true h; omega
    refine AWp.seq (AWp.block (AWp.region ?_))
    refine And.intro (fun _ => And.intro (Int.natCast_nonneg _) (Int.ofNat_lt.2 (by omega))) ?_
    intro _
    refine AWp.region ?_
    intro _
    refine round_end (k + 1) (by omega) ?_ (by omega)
    refine And.intro ?_ ?_
    · repeat' (first | exact rfl | exact trivial | refine And.intro ?_ ?_)
      · exact congrArg (fun z => some (AV.i64 z)) (by rw [startF_succ (by omega : k < f.Blocks.length)]; rfl)
      · exact congrArg (fun z => some (AV.i64 z)) (wrap_succ (show k < f.Blocks.length by omega) hlen)
    · repeat' (first | exact rfl | exact trivial | refine And.intro ?_ ?_)
  have hk3 : ¬ (k : Int) < b := of_decide_eq_false h
  obtain rfl : k = b := by omega
  refine AWp.exit ?_
  refine AWp.seq (AWp.region ?_)
  intro _
  refine AWp.ret ⟨Or.inl rfl, rfl, ?_⟩
  intro _
  rfl

end Go.Proofs.Ytnbgpgbbfjaomaa
