/- Contracts of ints, sameInts, run.Mix and ostlerref.Mixed: one same number. Condition of ints: the row is no longer than 2^44 numbers. -/
import Derived.Test.YtdilfbdfefppbaaTab
set_option linter.unusedVariables false
set_option linter.unusedSimpArgs false
namespace Go.Proofs.Ytdilfbdfefppbaa
open Go Go.Abs Go.RowKit

def mixStep (x n : Int) : Int := (x * 31 + n.tmod 1000003 + 1000003).tmod 1000003
def mixF (l : List Int) : Int := l.foldl mixStep 7
theorem mixStep_range {x n : Int} (h : 0 ≤ x ∧ x < 1000003) : 0 ≤ mixStep x n ∧ mixStep x n < 1000003 := by
  have h1 : -1000003 < n.tmod 1000003 := by have := Int.lt_tmod_of_pos n (b := 1000003) (by decide); omega
  unfold mixStep
  have h2 : 0 ≤ x * 31 + n.tmod 1000003 + 1000003 := by omega
  exact ⟨Int.tmod_nonneg _ h2, Int.tmod_lt_of_pos _ (by decide)⟩
theorem foldl_range : ∀ (l : List Int) (x : Int), (0 ≤ x ∧ x < 1000003) → 0 ≤ l.foldl mixStep x ∧ l.foldl mixStep x < 1000003
  | [], _, h => h
  | _ :: l, _, h => foldl_range l _ (mixStep_range h)
theorem mixF_range (l : List Int) : 0 ≤ mixF l ∧ mixF l < 1000003 := foldl_range l 7 (by decide)
theorem take_succ_getD {α : Type} [Inhabited α] {l : List α} {k : Nat} (h : k < l.length) : l.take (k + 1) = l.take k ++ [l.getD k default] := by
  rw [List.take_add_one, List.getD_eq_getElem?_getD, List.getElem?_eq_getElem h]; rfl
theorem mixF_succ {l : List Int} {k : Nat} (h : k < l.length) : mixF (l.take (k + 1)) = mixStep (mixF (l.take k)) (l.getD k default) := by
  unfold mixF; rw [take_succ_getD h, List.foldl_append]; rfl
theorem mixF_take_all (l : List Int) {k : Nat} (h : l.length ≤ k) : mixF (l.take k) = mixF l := by rw [List.take_of_length_le h]

theorem c_ints (l : List Int) (hl : l.length * 8 ≤ 140737488355328) : ACallIs B.P 17 [ints l] (ints l) := by
  refine ACallIs.enter B _ _ Try.func17 rfl rfl Try.ntmps17 Try.results17 rfl fun hreal => ?_
  refine AWp.seq (AWp.region ?_)
  intro _
  refine AWp.seq (AWp.region ?_)
  refine And.intro (fun i hi => rfl) ?_
  refine And.intro (by simpa using hl) ?_
  intro _
  refine AWp.freeze 4 (fun i => intC (l.getD i default)) rfl (fun i hi => rfl) ?_
  refine AWp.ret ⟨Or.inl rfl, rfl, ?_⟩
  intro _
  rfl

theorem c_Mix (l : List Int) : ACallIs B.P 18 [ints l] (.i64 (mixF l)) := by
  refine ACallIs.enter B _ _ Try.func18 rfl rfl Try.ntmps18 Try.results18 rfl fun hreal => ?_
  have hlen : l.length ≤ maxLen := hreal.1.len
  refine AWp.seq (AWp.region ?_)
  intro _
  refine AWp.seq (AWp.region ?_)
  intro _
  refine AWp.seq (AWp.seq (AWp.region ?_))
  intro _
  refine AWp.block (AWp.loop (fun k : Nat => ⟨[(6, ints l), (7, .i64 l.length), (3, .i64 (mixF (l.take k))), (8, .i64 k)], []⟩) (fun k => k ≤ l.length) (fun k => l.length - k) 0 (by simp) ?_ ?_)
  · repeat' (first | exact rfl | exact trivial | refine And.intro ?_ ?_)
  intro k hk
  have hr := mixF_range (l.take k)
  repeat' (first
    | refine AWp.seq ?_ | refine AWp.block ?_ | refine AWp.skip ?_ | refine AWp.exit ?_
    | refine AWp.region ?_ | refine AWp.draw mixed (by kernel_rfl) ?_
    | refine AWp.cond (And.intro (fun h => ?_) (fun h => ?_))
    | refine AWp.ret ⟨Or.inl rfl, rfl, ?_⟩
    | exact trivial | refine And.intro ?_ ?_ | intro _)
  all_goals first | assumption | (simp at h; omega) | (exfalso; omega) | skip
  · simp at h
    refine round_end (k + 1) (by omega) ?_ (by omega)
    have hs := mixF_succ h
    have hw : ∀ x n : Int, (0 ≤ x ∧ x < 1000003) → (IntKind.i64.wrap (IntKind.i64.wrap (IntKind.i64.wrap (x * 31) + n.tmod 1000003) + 1000003)).tmod 1000003 = mixStep x n := by
      intro x n hx
      have h1 : -1000003 < n.tmod 1000003 := by have := Int.lt_tmod_of_pos n (b := 1000003) (by decide); omega
      have h2 : n.tmod 1000003 < 1000003 := Int.tmod_lt_of_pos _ (by decide)
      rw [wrap_in (n := x * 31) (by omega) (by omega), wrap_in (n := x * 31 + _) (by omega) (by omega), wrap_in (by omega) (by omega)]
      rfl
    have hv := hw _ (l.getD k default) hr
    rw [← hs] at hv
    repeat' (first | exact rfl | exact trivial | refine And.intro ?_ ?_)
    · exact congrArg (fun z => some (AV.i64 z)) hv
    · exact congrArg (fun z => some (AV.i64 z)) (wrap_succ h hlen)
  · simp at h
    exact congrArg AV.i64 (mixF_take_all l (by omega))

theorem c_Mixed (l : List Int) : ACallIs B.P 19 [ints l] (.i64 (mixF l)) := by
  refine ACallIs.enter B _ _ Try.func19 rfl rfl Try.ntmps19 Try.results19 rfl fun hreal => ?_
  have hlen : l.length ≤ maxLen := hreal.1.len
  refine AWp.seq (AWp.region ?_)
  intro _
  refine AWp.seq (AWp.region ?_)
  intro _
  refine AWp.seq (AWp.seq (AWp.region ?_))
  intro _
  refine AWp.block (AWp.loop (fun k : Nat => ⟨[(0, ints l), (3, .i64 (mixF (l.take k))), (4, .i64 k)], []⟩) (fun k => k ≤ l.length) (fun k => l.length - k) 0 (by simp) ?_ ?_)
  · repeat' (first | exact rfl | exact trivial | refine And.intro ?_ ?_)
  intro k hk
  have hr := mixF_range (l.take k)
  repeat' (first
    | refine AWp.seq ?_ | refine AWp.block ?_ | refine AWp.skip ?_ | refine AWp.exit ?_
    | refine AWp.region ?_ | refine AWp.draw mixed (by kernel_rfl) ?_
    | refine AWp.cond (And.intro (fun h => ?_) (fun h => ?_))
    | refine AWp.ret ⟨Or.inl rfl, rfl, ?_⟩
    | exact trivial | refine And.intro ?_ ?_ | intro _)
  all_goals first | assumption | (simp at h; omega) | (exfalso; omega) | skip
  all_goals have e1 : -1000003 < (l.getD k default).tmod 1000003 := by have := Int.lt_tmod_of_pos (l.getD k default) (b := 1000003) (by decide); omega
  all_goals have e2 : (l.getD k default).tmod 1000003 < 1000003 := Int.tmod_lt_of_pos _ (by decide)
  · rename_i hk1 _ _ h _ _ _
    have hk' : k < l.length := by have := of_decide_eq_true (by assumption : decide ((k : Int) < (l.length : Int)) = true); omega
    have hs := mixF_succ hk'
    have ht : (l.getD k default).tmod 1000003 < 0 := of_decide_eq_true h
    refine round_end (k + 1) (by omega) ?_ (by omega)
    have hv : (IntKind.i64.wrap (IntKind.i64.wrap (31 * mixF (l.take k)) + IntKind.i64.wrap ((l.getD k default).tmod 1000003 + 1000003))).tmod 1000003 = mixF (l.take (k + 1)) := by
      rw [hs, wrap_in (n := 31 * _) (by omega) (by omega), wrap_in (n := _ + 1000003) (by omega) (by omega), wrap_in (by omega) (by omega)]
      unfold mixStep
      rw [show 31 * mixF (l.take k) + ((l.getD k default).tmod 1000003 + 1000003) = mixF (l.take k) * 31 + (l.getD k default).tmod 1000003 + 1000003 by omega]
    repeat' (first | exact rfl | exact trivial | refine And.intro ?_ ?_)
    · exact congrArg (fun z => some (AV.i64 z)) hv
    · exact congrArg (fun z => some (AV.i64 z)) (wrap_succ hk' hlen)
  · rename_i hk1 _ _ h _ _
    have hk' : k < l.length := by have := of_decide_eq_true (by assumption : decide ((k : Int) < (l.length : Int)) = true); omega
    have hs := mixF_succ hk'
    have ht : ¬ (l.getD k default).tmod 1000003 < 0 := of_decide_eq_false h
    refine round_end (k + 1) (by omega) ?_ (by omega)
    have hv : (IntKind.i64.wrap (IntKind.i64.wrap (31 * mixF (l.take k)) + (l.getD k default).tmod 1000003)).tmod 1000003 = mixF (l.take (k + 1)) := by
      rw [hs, wrap_in (n := 31 * _) (by omega) (by omega), wrap_in (by omega) (by omega)]
      unfold mixStep
      generalize (l.getD k default).tmod 1000003 = t at *
      rw [Int.tmod_eq_emod_of_nonneg (by omega : 0 ≤ 31 * mixF (l.take k) + t), Int.tmod_eq_emod_of_nonneg (by omega : 0 ≤ mixF (l.take k) * 31 + t + 1000003), Int.add_emod_right, Int.mul_comm]
    repeat' (first | exact rfl | exact trivial | refine And.intro ?_ ?_)
    · exact congrArg (fun z => some (AV.i64 z)) hv
    · exact congrArg (fun z => some (AV.i64 z)) (wrap_succ hk' hlen)
  · rename_i h _ _
    simp at h
    exact congrArg AV.i64 (mixF_take_all l (by omega))

theorem c_sameInts (xs ys : List Int) : ACallIs B.P 16 [ints xs, ints ys] (.bool (decide (xs = ys))) := by
  refine ACallIs.enter B _ _ Try.func16 rfl rfl Try.ntmps16 Try.results16 rfl fun hreal => ?_
  have hx : xs.length ≤ maxLen := hreal.1.len
  refine AWp.seq (AWp.region ?_)
  intro _
  refine AWp.seq (AWp.seq (AWp.region ?_))
  intro _
  refine AWp.cond (And.intro (fun h => ?_) (fun h => ?_))
  · refine AWp.seq (AWp.region ?_)
    intro _
    refine AWp.ret ⟨Or.inl rfl, rfl, ?_⟩
    intro _
    refine congrArg AV.bool ?_
    simp at h
    refine (decide_eq_false ?_).symm
    rintro rfl
    exact h rfl
  have hlen : xs.length = ys.length := by simp at h; omega
  refine AWp.skip ?_
  refine AWp.seq (AWp.seq (AWp.region ?_))
  intro _
  refine AWp.block (AWp.loop (fun k : Nat => ⟨[(0, ints xs), (1, ints ys), (5, .i64 k)], []⟩) (fun k => k ≤ xs.length ∧ xs.take k = ys.take k) (fun k => xs.length - k) 0 (by simp) ?_ ?_)
  · repeat' (first | exact rfl | exact trivial | refine And.intro ?_ ?_)
  rintro k ⟨hk, ht⟩
  repeat' (first
    | refine AWp.seq ?_ | refine AWp.block ?_ | refine AWp.skip ?_ | refine AWp.exit ?_
    | refine AWp.region ?_ | refine AWp.draw mixed (by kernel_rfl) ?_
    | refine AWp.cond (And.intro (fun h => ?_) (fun h => ?_))
    | refine AWp.ret ⟨Or.inl rfl, rfl, ?_⟩
    | exact trivial | refine And.intro ?_ ?_ | intro _)
  all_goals first | assumption | (exact Int.natCast_nonneg _) | (simp at *; omega) | (exfalso; omega) | skip
  · rename_i h _ _ _
    refine congrArg AV.bool (decide_eq_false ?_).symm
    rintro rfl
    simp at h
  · rename_i hk1 _ h _
    have hk' : k < xs.length := by have := of_decide_eq_true (by assumption : decide ((k : Int) < (xs.length : Int)) = true); omega
    have h' : xs.getD k default = ys.getD k default := by simpa using h
    refine round_end (k + 1) ⟨by omega, ?_⟩ ?_ (by omega)
    · rw [take_succ_getD hk', take_succ_getD (hlen ▸ hk'), ht, h']
    repeat' (first | exact rfl | exact trivial | refine And.intro ?_ ?_)
    exact congrArg (fun z => some (AV.i64 z)) (wrap_succ hk' hx)
  · rename_i h _ _
    simp at h
    refine congrArg AV.bool (decide_eq_true ?_).symm
    rw [List.take_of_length_le (by omega), List.take_of_length_le (by omega)] at ht
    exact ht
end Go.Proofs.Ytdilfbdfefppbaa
