/- Contracts of the smallest functions. Conditions: as each says. -/
import Derived.Test.YtgkdmdfjfepcdaaDoorTab
set_option linter.unusedVariables false
set_option linter.unusedSimpArgs false
/- Contracts of the smallest functions: In, value, classOf, Meet, Apart, CheckMachine, MachineFault. No condition. -/
namespace Go.Proofs.YtgkdmdfjfepcdaaDoor
open Go Go.Abs Go.RowKit

theorem bif_if {α : Type} (b : Bool) (x y : α) : (bif b then x else y) = if b = true then x else y := by cases b <;> rfl
/-- The first answer that is not 0. -/
def firstF (g : Nat → Int) : Nat → Int
  | 0 => 0
  | n + 1 => if g 0 ≠ 0 then g 0 else firstF (fun i => g (i + 1)) n
theorem firstF_hit : ∀ {n : Nat} {g : Nat → Int} {k : Nat}, k < n → (∀ j, j < k → g j = 0) → g k ≠ 0 → firstF g n = g k
  | 0, _, _, h, _, _ => by omega
  | n + 1, g, 0, _, _, h => by unfold firstF; rw [if_pos h]
  | n + 1, g, k + 1, hk, hj, h => by
    unfold firstF
    rw [if_neg (by simpa using hj 0 (by omega))]
    exact firstF_hit (g := fun i => g (i + 1)) (by omega) (fun j hj' => hj (j + 1) (by omega)) h
theorem firstF_none : ∀ {n : Nat} {g : Nat → Int}, (∀ j, j < n → g j = 0) → firstF g n = 0
  | 0, _, _ => rfl
  | n + 1, g, h => by
    unfold firstF
    rw [if_neg (by simpa using h 0 (by omega))]
    exact firstF_none fun j hj => h (j + 1) (by omega)
theorem firstF_zero : ∀ {n : Nat} {g : Nat → Int}, firstF g n = 0 → ∀ j, j < n → g j = 0
  | 0, _, _, _, h => by omega
  | n + 1, g, h, j, hj => by
    unfold firstF at h
    split at h
    · rename_i hne; exact absurd h hne
    · rename_i h0
      cases j with
      | zero => simpa using h0
      | succ j => exact firstF_zero (g := fun i => g (i + 1)) h j (by omega)
theorem firstF_congr {g g' : Nat → Int} : ∀ {n : Nat}, (∀ j, j < n → g j = g' j) → firstF g n = firstF g' n := by
  intro n h
  by_cases hz : ∀ j, j < n → g j = 0
  · rw [firstF_none hz, firstF_none fun j hj => by rw [← h j hj]; exact hz j hj]
  · have : ∃ j, j < n ∧ g j ≠ 0 := by
      apply Classical.byContradiction; intro hne; exact hz fun j hj => Classical.byContradiction fun h0 => hne ⟨j, hj, h0⟩
    obtain ⟨k, ⟨h1, h2⟩, h3⟩ := least this
    have hb : ∀ j, j < k → g j = 0 := fun j hj => Classical.byContradiction fun h0 => absurd (h3 j ⟨by omega, h0⟩) (by omega)
    rw [firstF_hit h1 hb h2, firstF_hit h1 (fun j hj => by rw [← h j (by omega)]; exact hb j hj) (by rw [← h k h1]; exact h2), h k h1]

def inB (n lo hi : Int) : Bool := decide (lo ≤ n) && decide (n ≤ hi)
def apartB (a b : Opd) : Bool :=
  if a.Kind = 1 ∧ b.Kind = 1 then a.Value != b.Value
  else if a.Kind = 2 ∧ b.Kind = 2 then true
  else if a.Kind = 2 then b.Late || !a.Late
  else a.Late || !b.Late
def machF (m : Mch) : Int := if inB m.r0 2 10 && inB m.r1 2 10 then 0 else 2

theorem c_In (n low high : Int) : ACallIs B.P 22 [.i64 n, .i64 low, .i64 high] (.bool (inB n low high)) := by
  refine ACallIs.enter B _ _ Tryd.func22 rfl rfl Tryd.ntmps22 Tryd.results22 rfl fun hreal => ?_
  repeat' (first
    | refine AWp.seq ?_ | refine AWp.block ?_ | refine AWp.skip ?_ | refine AWp.exit ?_
    | refine AWp.region ?_ | refine AWp.draw mixed (by kernel_rfl) ?_
    | refine AWp.cond (And.intro (fun h => ?_) (fun h => ?_))
    | refine AWp.ret ⟨Or.inl rfl, rfl, ?_⟩
    | exact trivial | refine And.intro ?_ ?_ | intro _)
  all_goals first | assumption | simp_all [tupOf, inB]

theorem c_Meet1 (a b : Opd) (h2 : ¬ a.Kind = 2 ∨ b.Kind = 2) : ACallIs B.P 80 [a.av, b.av] (.bool (apartB a b)) := by
  refine ACallIs.enter B _ _ Tryd.func80 rfl rfl Tryd.ntmps80 Tryd.results80 rfl fun hreal => ?_
  repeat' (first
    | refine AWp.seq ?_ | refine AWp.block ?_ | refine AWp.skip ?_ | refine AWp.exit ?_
    | refine AWp.region ?_ | refine AWp.draw mixed (by kernel_rfl) ?_
    | refine AWp.cond (And.intro (fun h => ?_) (fun h => ?_))
    | refine AWp.ret ⟨Or.inl rfl, rfl, ?_⟩
    | exact trivial | refine And.intro ?_ ?_ | intro _)
  all_goals first | assumption | (exfalso; simp_all; done) | (simp_all [tupOf, apartB]; done) | skip
theorem c_Meet (a b : Opd) : ACallIs B.P 80 [a.av, b.av] (.bool (apartB a b)) := by
  by_cases h2 : ¬ a.Kind = 2 ∨ b.Kind = 2
  · exact c_Meet1 a b h2
  have h3 : a.Kind = 2 ∧ ¬ b.Kind = 2 := by simp at h2; exact h2
  have hm := c_Meet1 b a (.inl h3.2)
  refine ACallIs.enter B _ _ Tryd.func80 rfl rfl Tryd.ntmps80 Tryd.results80 rfl fun hreal => ?_
  repeat' (first
    | refine AWp.seq ?_ | refine AWp.block ?_ | refine AWp.skip ?_ | refine AWp.exit ?_
    | refine AWp.region ?_ | refine AWp.draw mixed (by kernel_rfl) ?_
    | refine AWp.cond (And.intro (fun h => ?_) (fun h => ?_))
    | refine AWp.ret ⟨Or.inl rfl, rfl, ?_⟩
    | refine CallX.pure (hm) rfl rfl rfl ?_ | refine CallK.intro (fun _ => hm) ?_
    | exact trivial | refine And.intro ?_ ?_ | intro _)
  all_goals first | assumption | (exfalso; simp_all; done) | (simp_all [tupOf, apartB]; done) | skip
theorem c_Apart (a b : Opd) : ACallIs B.P 88 [a.av, b.av] (.bool (apartB a b)) := by
  refine ACallIs.enter B _ _ Tryd.func88 rfl rfl Tryd.ntmps88 Tryd.results88 rfl fun hreal => ?_
  repeat' (first
    | refine AWp.seq ?_ | refine AWp.block ?_ | refine AWp.skip ?_ | refine AWp.exit ?_
    | refine AWp.region ?_ | refine AWp.draw mixed (by kernel_rfl) ?_
    | refine AWp.cond (And.intro (fun h => ?_) (fun h => ?_))
    | refine AWp.ret ⟨Or.inl rfl, rfl, ?_⟩
    | exact trivial | refine And.intro ?_ ?_ | intro _)
  all_goals first | assumption | (exfalso; simp_all; done) | (simp_all [tupOf, apartB]; done) | skip
end Go.Proofs.YtgkdmdfjfepcdaaDoor

/- Contracts of shape.CheckMachine and ostlerref.MachineFault, and of the laws ShapeMachines and ShapeMeets: they hand back true. No condition. -/
namespace Go.Proofs.YtgkdmdfjfepcdaaDoor
open Go Go.Abs Go.RowKit

theorem c_CheckMachine (m : Mch) : ACallIs B.P 35 [m.av] (.i64 (machF m)) := by
  refine ACallIs.enter B _ _ Tryd.func35 rfl rfl Tryd.ntmps35 Tryd.results35 rfl fun hreal => ?_
  refine AWp.seq (AWp.region ?_)
  intro _
  refine AWp.seq (AWp.seq (AWp.region ?_))
  intro _
  refine AWp.block (AWp.loop (fun k : Nat => ⟨[(6, .agg m.cells), (7, .i64 k)], [(1, .cells m.cells)]⟩) (fun k => k ≤ 2 ∧ (1 ≤ k → inB m.r0 2 10 = true) ∧ (2 ≤ k → inB m.r1 2 10 = true)) (fun k => 2 - k) 0 (by simp) ?_ ?_)
  · repeat' (first | exact rfl | exact trivial | refine And.intro ?_ ?_)
  intro k hk
  obtain rfl | rfl | rfl : k = 0 ∨ k = 1 ∨ k = 2 := by omega
  all_goals
    repeat' (first
      | refine AWp.seq ?_ | refine AWp.block ?_ | refine AWp.skip ?_ | refine AWp.exit ?_
      | refine AWp.region ?_ | refine AWp.draw mixed (by kernel_rfl) ?_
      | refine AWp.cond (And.intro (fun h => ?_) (fun h => ?_))
      | refine AWp.ret ⟨Or.inl rfl, rfl, ?_⟩
      | exact trivial | refine And.intro ?_ ?_ | intro _)
  all_goals first | assumption | (exfalso; simp_all; done) | (simp; done) | (show (_ : Bool) = _; simp_all; done) | skip
  · simp [tupOf, machF, inB] at *; omega
  · refine round_end 1 ?_ ?_ ?_
    · simp [inB] at *; omega
    · repeat' (first | exact rfl | exact trivial | refine And.intro ?_ ?_)
    · omega
  · simp [tupOf, machF, inB] at *; omega
  · refine round_end 2 ?_ ?_ ?_
    · simp [inB] at *; omega
    · repeat' (first | exact rfl | exact trivial | refine And.intro ?_ ?_)
    · omega
  · simp [tupOf, machF, inB] at *; omega

theorem c_MachineFault (m : Mch) : ACallIs B.P 50 [m.av] (.i64 (machF m)) := by
  refine ACallIs.enter B _ _ Tryd.func50 rfl rfl Tryd.ntmps50 Tryd.results50 rfl fun hreal => ?_
  refine AWp.seq (AWp.region ?_)
  intro _
  refine AWp.seq (AWp.seq (AWp.region ?_))
  intro _
  refine AWp.block (AWp.loop (fun k : Nat => ⟨[(3, .i64 k), (1, .obj 1 0)], [(1, .cells m.cells)]⟩) (fun k => k ≤ 2 ∧ (1 ≤ k → inB m.r0 2 10 = true) ∧ (2 ≤ k → inB m.r1 2 10 = true)) (fun k => 2 - k) 0 (by simp) ?_ ?_)
  · repeat' (first | exact rfl | exact trivial | refine And.intro ?_ ?_)
  intro k hk
  obtain rfl | rfl | rfl : k = 0 ∨ k = 1 ∨ k = 2 := by omega
  all_goals
    repeat' (first
      | refine AWp.seq ?_ | refine AWp.block ?_ | refine AWp.skip ?_ | refine AWp.exit ?_
      | refine AWp.region ?_ | refine AWp.draw mixed (by kernel_rfl) ?_
      | refine AWp.cond (And.intro (fun h => ?_) (fun h => ?_))
      | refine AWp.ret ⟨Or.inl rfl, rfl, ?_⟩
      | refine CallX.pure (c_In _ _ _) rfl rfl rfl ?_ | refine CallK.intro (fun _ => c_In _ _ _) ?_
      | exact trivial | refine And.intro ?_ ?_ | intro _)
  all_goals first | assumption | (exfalso; simp_all; done) | (simp; done) | (show (_ : Bool) = _; simp_all; done) | skip
  · simp [tupOf, machF, inB] at *; omega
  · refine round_end 1 ?_ ?_ ?_
    · simp [inB] at *; omega
    · repeat' (first | exact rfl | exact trivial | refine And.intro ?_ ?_)
    · omega
  · simp [tupOf, machF, inB] at *; omega
  · refine round_end 2 ?_ ?_ ?_
    · simp [inB] at *; omega
    · repeat' (first | exact rfl | exact trivial | refine And.intro ?_ ?_)
    · omega
  · simp [tupOf, machF, inB] at *; omega

end Go.Proofs.YtgkdmdfjfepcdaaDoor

/- Contracts of ints, sameInts, run.Mix and ostlerref.Mixed: one same number. Condition of ints: the row is no longer than 2^44 numbers. -/
namespace Go.Proofs.YtgkdmdfjfepcdaaDoor
open Go Go.Abs Go.RowKit

def mixStep (x n : Int) : Int := (x * 31 + n.tmod 1000003 + 1000003).tmod 1000003
def mixF (l : List Int) : Int := l.foldl mixStep 7
theorem mixStep_range {x n : Int} (h : 0 ≤ x ∧ x < 1000003) : 0 ≤ mixStep x n ∧ mixStep x n < 1000003 := by
  have h1 : -1000003 < n.tmod 1000003 := by have := Int.lt_tmod_of_pos n (b := 1000003) (by decide); omega
  unfold mixStep
  have h2 : 0 ≤ x * 31 + n.tmod 1000003 + 1000003 := by omega
  exact ⟨Int.tmod_nonneg _ h2, Int.tmod_lt_of_pos _ (by decide)⟩
theorem foldl_range : ∀ (l : List Int) (x : Int), (0 ≤ x ∧ x < 1000003) → 0 ≤ l.foldl mixStep x ∧ l.foldl mixStep x < 1000003
  | [], _, h => h
  | _ :: l, _, h => foldl_range l _ (mixStep_range h)
theorem mixF_range (l : List Int) : 0 ≤ mixF l ∧ mixF l < 1000003 := foldl_range l 7 (by decide)
theorem take_succ_getD {α : Type} [Inhabited α] {l : List α} {k : Nat} (h : k < l.length) : l.take (k + 1) = l.take k ++ [l.getD k default] := by
  rw [List.take_add_one, List.getD_eq_getElem?_getD, List.getElem?_eq_getElem h]; rfl
theorem mixF_succ {l : List Int} {k : Nat} (h : k < l.length) : mixF (l.take (k + 1)) = mixStep (mixF (l.take k)) (l.getD k default) := by
  unfold mixF; rw [take_succ_getD h, List.foldl_append]; rfl
theorem mixF_take_all (l : List Int) {k : Nat} (h : l.length ≤ k) : mixF (l.take k) = mixF l := by rw [List.take_of_length_le h]

end Go.Proofs.YtgkdmdfjfepcdaaDoor

/- Contracts of joinedInts, run.Made, ostlerref.madeBy, MadeOf. Condition: the rows together are no longer than 2^44 numbers. -/
namespace Go.Proofs.YtgkdmdfjfepcdaaDoor
open Go Go.Abs Go.RowKit

theorem row_push {xs ys : List Int} {k i : Nat} {z : Int} (hi : i < k + 1) (h1 : ∀ i, i < k → intC (ys.getD i default) = intC (xs.getD i default)) (hz : ys.getD k default = z) :
    intC (ys.getD i default) = if i < k then intC (xs.getD i default) else ([[AV.val (Value.int IntKind.i64 z)]] : List (List AV)).getD (i - k) [] := by
  split
  · exact h1 i (by assumption)
  · obtain rfl : i = k := by omega
    rw [hz, Nat.sub_self]; rfl

theorem row_three (a b c : Int) (l : List Int) : (fun i => if i < 3 then ([[AV.val (Value.int IntKind.i64 a)], [AV.val (Value.int IntKind.i64 b)], [AV.val (Value.int IntKind.i64 c)]] : List (List AV)).getD i [] else intC (l.getD (i - 3) default)) = fun i => intC ((a :: b :: c :: l).getD i default) := by
  funext i
  match i with
  | 0 => rfl
  | 1 => rfl
  | 2 => rfl
  | i + 3 => rfl

end Go.Proofs.YtgkdmdfjfepcdaaDoor

/- Contracts of run.Takes, ostlerref.TakesOf and the law RunTakes. Condition: the row is no longer than 2^44 - 3 numbers. -/
namespace Go.Proofs.YtgkdmdfjfepcdaaDoor
open Go Go.Abs Go.RowKit

def takesF (seed : Int) (b : Blk) (at_ : Int) (l : List Int) : Int :=
  if at_ < 0 ∨ at_ ≠ (b.Instrs.length : Int) - 1 ∨ (b.Edges.length : Int) = 0 then -1
  else if (b.Edges.length : Int) = 1 then 0 else (mixF (seed :: (b.Instrs.getD at_.toNat default).Op :: -1 :: l)).tmod b.Edges.length

theorem not_of {x : Bool} (h : (true && !x) = true) : (x == false) = true := by
  cases x with
  | false => rfl
  | true => cases h
theorem takes_hc {at_ : Int} {b : Blk} (hw : IntKind.i64.wrap ((b.Instrs.length : Int) - 1) = (b.Instrs.length : Int) - 1)
    (h1 : (bif bif decide (at_ < 0) then true else at_ != IntKind.i64.wrap ((b.Instrs.length : Int) - 1) then true else (b.Edges.length : Int) == 0) = false) : ¬ (at_ < 0 ∨ at_ ≠ (b.Instrs.length : Int) - 1 ∨ (b.Edges.length : Int) = 0) := by
  rw [hw] at h1
  cases e1 : decide (at_ < 0) with
  | true => rw [e1] at h1; cases h1
  | false =>
    rw [e1] at h1
    cases e2 : (at_ != (b.Instrs.length : Int) - 1) with
    | true => rw [e2] at h1; cases h1
    | false =>
      rw [e2] at h1
      rintro (e | e | e)
      · exact of_decide_eq_false e1 e
      · exact e (by simpa using e2)
      · have h3 : ((b.Edges.length : Int) == 0) = false := h1
        rw [e] at h3; cases h3
end Go.Proofs.YtgkdmdfjfepcdaaDoor

/- Contracts of live.Starts, ostlerref.startOf, StartsOf. Condition: the function's blocks weigh no more than what came in may. -/
namespace Go.Proofs.YtgkdmdfjfepcdaaDoor
open Go Go.Abs Go.RowKit

def stepSt (n : Int) (b : Blk) : Int := IntKind.i64.wrap (IntKind.i64.wrap (n + 2) + IntKind.i64.wrap (2 * (b.Instrs.length : Int)))
def startF (bs : List Blk) (k : Nat) : Int := (bs.take k).foldl stepSt 0
def startsF (bs : List Blk) : List Int := (List.range (bs.length + 1)).map (startF bs)
theorem startF_succ {bs : List Blk} {k : Nat} (h : k < bs.length) : startF bs (k + 1) = stepSt (startF bs k) (bs.getD k default) := by
  unfold startF; rw [take_succ_getD h, List.foldl_append]; rfl
theorem startsF_get {bs : List Blk} {k : Nat} (h : k ≤ bs.length) : (startsF bs).getD k default = startF bs k := by
  unfold startsF; rw [List.getD_eq_getElem?_getD, List.getElem?_map, List.getElem?_range (by omega)]; rfl
theorem startsF_len (bs : List Blk) : (startsF bs).length = bs.length + 1 := by simp [startsF]

end Go.Proofs.YtgkdmdfjfepcdaaDoor
