/- Contracts of shape.clash and the document's clashes. Condition: what was checked of the instruction ahead of them. -/
import Derived.Test.YtdilfbdfefppbaaShpE
set_option linter.unusedVariables false
set_option linter.unusedSimpArgs false
namespace Go.Proofs.Ytdilfbdfefppbaa
open Go Go.Abs Go.RowKit

structure OpsAll (f : Fun) (x : Ins) : Prop where
  ok : OpsOk f x
  reu : ∀ j, j < x.Operands.length → (x.Operands.getD j default).Limit = 5 → 0 ≤ (x.Operands.getD j default).N ∧ (x.Operands.getD j default).N < x.Operands.length
  spo : x.Spoils.length ≤ 20
def fixB (x : Ins) (o : Opd) : Bool := decide ((tgt x o).Limit = 4)
def fixR (f : Fun) (x : Ins) (o : Opd) : Rg := ⟨if (tgt x o).Limit = 4 then cls f (tgt x o).Value else 0, if (tgt x o).Limit = 4 then (tgt x o).N else 0⟩
theorem tgt_at {f : Fun} {x : Ins} (h : OpsAll f x) {j : Nat} (hj : j < x.Operands.length) : ∃ i, i < x.Operands.length ∧ tgt x (x.Operands.getD j default) = x.Operands.getD i default := by
  by_cases e : (x.Operands.getD j default).Limit = 5
  · have := h.reu j hj e
    exact ⟨(x.Operands.getD j default).N.toNat, by omega, by unfold tgt; rw [if_pos e]; rfl⟩
  · exact ⟨j, hj, by unfold tgt; rw [if_neg e]⟩
theorem tgt_val {f : Fun} {x : Ins} (h : OpsAll f x) {j : Nat} (hj : j < x.Operands.length) : valB f (tgt x (x.Operands.getD j default)).Value = true := by
  obtain ⟨i, hi, e⟩ := tgt_at h hj
  rw [e]; exact h.ok.val i hi
theorem tgt_n {f : Fun} {x : Ins} (h : OpsAll f x) {j : Nat} (hj : j < x.Operands.length) (h4 : (tgt x (x.Operands.getD j default)).Limit = 4) : 0 ≤ (tgt x (x.Operands.getD j default)).N ∧ (tgt x (x.Operands.getD j default)).N < 10 := by
  obtain ⟨i, hi, e⟩ := tgt_at h hj
  rw [e] at h4 ⊢; exact h.ok.n i hi h4
theorem c_fx (f : Fun) (x : Ins) (h : OpsAll f x) (j : Nat) (hj : j < x.Operands.length) :
    ACallIs B.P 92 [f.av, x.av, (x.Operands.getD j default).av] (.tup [(fixR f x (x.Operands.getD j default)).av, .bool (fixB x (x.Operands.getD j default))]) :=
  c_fixed f x _ (h.reu j hj) (tgt_val h hj)
theorem c_fxR (f : Fun) (x : Ins) (hf : VOk f) (h : OpsAll f x) (j : Nat) (hj : j < x.Operands.length) :
    ACallIs B.P 95 [f.av, x.av, (x.Operands.getD j default).av] (.i64 (fixN f x (x.Operands.getD j default))) :=
  c_fixedReg f x _ hf (h.reu j hj) (tgt_val h hj) (tgt_n h hj)

/-- Do two operands ask for one place? -/
def claG (f : Fun) (x : Ins) (i k : Nat) : Bool :=
  ((x.Operands.getD i default).Limit == 5 && (x.Operands.getD k default).Limit == 5 && (x.Operands.getD i default).N == (x.Operands.getD k default).N)
  || (fixB x (x.Operands.getD i default) && fixB x (x.Operands.getD k default) && ((fixR f x (x.Operands.getD k default)).Class == (fixR f x (x.Operands.getD i default)).Class && (fixR f x (x.Operands.getD k default)).N == (fixR f x (x.Operands.getD i default)).N) && apartB (x.Operands.getD i default) (x.Operands.getD k default)
    && !(((x.Operands.getD i default).Limit == 5 && (x.Operands.getD i default).N == (k : Int)) || ((x.Operands.getD k default).Limit == 5 && (x.Operands.getD k default).N == (i : Int))))
def claH (f : Fun) (x : Ins) (i : Nat) : Bool :=
  (fixB x (x.Operands.getD i default) && ((x.Operands.getD i default).Late || (x.Operands.getD i default).Kind == 2) && oneR x.Spoils (fixR f x (x.Operands.getD i default))) || anyB (claG f x i) i
def claF (f : Fun) (x : Ins) : Bool := anyB (claH f x) x.Operands.length
theorem claH_in {f : Fun} {x : Ins} {i k : Nat} (hk : k < i) (h : claG f x i k = true) : claH f x i = true := by
  unfold claH; rw [anyB_hit hk h, Bool.or_true]
theorem ro_cut (k : Nat) (f : Nat → List AV) : some (AV.ro 5 ((k : Int) - 0).toNat (fun i => f ((0 : Int).toNat + i))) = some (AV.ro 5 k f) := by
  rw [show ((k : Int) - 0).toNat = k by omega]
  exact congrArg (fun g => some (AV.ro 5 k g)) (funext fun i => congrArg f (Nat.zero_add i))
set_option maxHeartbeats 1000000 in
theorem c_clash (f : Fun) (x : Ins) (hx : OpsAll f x) : ACallIs B.P 70 [f.av, x.av] (.bool (claF f x)) := by
  have hl := hx.ok.len
  have hlen : x.Operands.length ≤ maxLen := by unfold maxLen; omega
  have hs : x.Spoils.length ≤ maxLen := by have := hx.spo; unfold maxLen; omega
  refine ACallIs.enter B _ _ Try.func70 rfl rfl Try.ntmps70 Try.results70 rfl fun hreal => ?_
  clear hreal
  refine AWp.seq (AWp.region ?_)
  intro _
  refine AWp.freezeObj 2 rfl rfl ?_
  refine AWp.freezeObj 3 rfl rfl ?_
  refine AWp.seq (AWp.seq (AWp.region ?_))
  intro _
  refine AWp.block (AWp.loop (fun k : Nat => ⟨[(2, .ptr f.cells), (3, .ptr x.cells), (15, roL 5 Opd.cells x.Operands), (16, .i64 x.Operands.length), (17, .i64 k)], []⟩) (fun k => k ≤ x.Operands.length ∧ ∀ j, j < k → claH f x j = false) (fun k => x.Operands.length - k) 0 ⟨Nat.zero_le _, fun j hj => absurd hj (by omega)⟩ ?_ ?_)
  · repeat' (first | exact rfl | exact trivial | refine And.intro ?_ ?_)
  intro k hk
  obtain ⟨hk, hg⟩ := hk
  refine AWp.seq (AWp.region ?_)
  intro _
  refine AWp.seq (AWp.cond (And.intro (fun h => ?_) (fun h => ?_)))
  · refine AWp.skip ?_
    have hk' : k < x.Operands.length := by have := of_decide_eq_true h; omega
    refine AWp.seq (AWp.block (AWp.seq (AWp.region ?_)))
    refine And.intro (fun _ => And.intro (Int.natCast_nonneg _) (Int.ofNat_lt.2 hk')) ?_
    intro _
    refine AWp.freezeObj 6 rfl rfl ?_
    refine AWp.seq (AWp.region ?_)
    refine CallX.pure (c_fx f x hx k hk') rfl rfl rfl ?_
    intro _
    refine AWp.freezeObj 7 rfl rfl ?_
    generalize hR : fixR f x (x.Operands.getD k default) = R
    generalize hB : fixB x (x.Operands.getD k default) = Bk
    repeat' (first
      | refine AWp.seq ?_ | refine AWp.block ?_ | refine AWp.skip ?_ | refine AWp.exit ?_
      | refine AWp.region ?_ | refine AWp.draw mixed (by kernel_rfl) ?_
      | refine AWp.cond (And.intro (fun h => ?_) (fun h => ?_))
      | refine AWp.ret ⟨Or.inl rfl, rfl, ?_⟩
      | refine CallX.pure (c_ContainsReg x.Spoils R hs) rfl rfl rfl ?_ | refine CallK.intro (fun _ => c_ContainsReg x.Spoils R hs) ?_
      | exact trivial | refine And.intro ?_ ?_ | intro _)
    all_goals first | assumption | exact Int.le_refl _ | exact Int.natCast_nonneg _ | exact Int.ofNat_le.2 hk | (refine tupB (anyB_hit (k := k) hk' ?_).symm; simp only [bif_if, Int.toNat_natCast] at *; unfold claH; rw [hB, hR]; grind) | refine AWp.loop (fun j : Nat => ⟨[(2, .ptr f.cells), (3, .ptr x.cells), (5, .i64 k), (6, .ptr (x.Operands.getD k default).cells), (7, .ptr R.cells), (8, .bool Bk), (15, roL 5 Opd.cells x.Operands), (16, .i64 x.Operands.length), (17, .i64 k), (60, .ro 5 k (fun i => (x.Operands.getD i default).cells)), (61, .i64 k), (62, .i64 j)], []⟩) (fun j => j ≤ k ∧ ∀ a, a < j → claG f x k a = false) (fun j => k - j) 0 ⟨Nat.zero_le _, fun j hj => absurd hj (by omega)⟩ ?_ ?_ | ((try simp only [bif_if, Int.toNat_natCast] at *); grind)
    · repeat' (first | exact rfl | exact trivial | refine And.intro ?_ ?_)
      exact ro_cut k (fun i => (x.Operands.getD i default).cells)
    intro j hj
    obtain ⟨hj, hgj⟩ := hj
    have hj0 : j < k → j < x.Operands.length := fun h => by omega
    refine AWp.seq (AWp.region ?_)
    intro _
    refine AWp.seq (AWp.cond (And.intro (fun h => ?_) (fun h => ?_)))
    · refine AWp.skip ?_
      have hj' : j < k := by have := of_decide_eq_true h; omega
      refine AWp.seq (AWp.block (AWp.seq (AWp.region ?_)))
      refine And.intro (fun _ => And.intro (Int.natCast_nonneg _) (Int.ofNat_lt.2 hj')) ?_
      intro _
      refine AWp.freezeObj 10 rfl rfl ?_
      refine AWp.seq (AWp.region ?_)
      refine CallX.pure (c_fx f x hx j (hj0 hj')) rfl rfl rfl ?_
      intro _
      refine AWp.freezeObj 11 rfl rfl ?_
      generalize hR2 : fixR f x (x.Operands.getD j default) = R2
      generalize hB2 : fixB x (x.Operands.getD j default) = B2
      repeat' (first
        | refine AWp.seq ?_ | refine AWp.block ?_ | refine AWp.skip ?_ | refine AWp.exit ?_
        | refine AWp.region ?_ | refine AWp.draw mixed (by kernel_rfl) ?_
        | refine AWp.cond (And.intro (fun h => ?_) (fun h => ?_))
        | refine AWp.ret ⟨Or.inl rfl, rfl, ?_⟩
        | refine CallX.pure (c_Meet (x.Operands.getD k default) (x.Operands.getD j default)) rfl rfl rfl ?_ | refine CallK.intro (fun _ => c_Meet (x.Operands.getD k default) (x.Operands.getD j default)) ?_
        | exact trivial | refine And.intro ?_ ?_ | intro _)
      all_goals first | assumption | (refine tupB (anyB_hit (k := k) hk' (claH_in hj' ?_)).symm) | refine round_end (j + 1) ⟨by omega, upto hgj ?_⟩ (by repeat' (first | exact rfl | exact trivial | exact congrArg (fun z => some (AV.i64 z)) (wrap_succ hj' (show k ≤ maxLen from by unfold maxLen; omega)) | refine And.intro ?_ ?_)) (by omega) | skip
      all_goals first | assumption | (clear hg hgj; unfold claG; rw [hB, hB2, hR, hR2]; (try simp only [bif_if, Int.toNat_natCast] at *); grind) | ((try simp only [bif_if, Int.toNat_natCast] at *); grind)
    have hj3 : ¬ (j : Int) < k := of_decide_eq_false h
    obtain rfl : j = k := by omega
    refine AWp.exit ?_
    refine AWp.region ?_
    intro _
    refine round_end (j + 1) ⟨by omega, upto hg ?_⟩ (by repeat' (first | exact rfl | exact trivial | exact congrArg (fun z => some (AV.i64 z)) (wrap_succ hk' hlen) | refine And.intro ?_ ?_)) (by omega)
    unfold claH
    rw [anyB_none hgj, hB, hR]
    clear hg hgj
    (try simp only [bif_if, Int.toNat_natCast] at *)
    grind
  have hk3 : ¬ (k : Int) < x.Operands.length := of_decide_eq_false h
  refine AWp.exit ?_
  refine AWp.seq (AWp.region ?_)
  intro _
  refine AWp.ret ⟨Or.inl rfl, rfl, ?_⟩
  intro _
  exact tupB (anyB_none (fun j hj => hg j (by omega))).symm
end Go.Proofs.Ytdilfbdfefppbaa
