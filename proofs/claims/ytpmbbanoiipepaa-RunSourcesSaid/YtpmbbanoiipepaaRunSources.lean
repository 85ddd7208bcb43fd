/- The law RunSources returns true at every function, machine, seed and number of steps: run.Source answers as the document's SourceRun. No condition. -/
import Derived.Test.YtpmbbanoiipepaaSrc
import Derived.Test.YtpmbbanoiipepaaRows
import Derived.WalkKit
import Derived.ProofKit
import Derived.OpenShut
import Derived.ChangeOld
import Derived.Below
import Derived.SizedLaws
set_option linter.unusedVariables false
namespace Go.Proofs.Ytpmbbanoiipepaa.runSources
open Go Go.Abs Go.RowKit Go.ChangeShapes Go.WideShapes Go.ChangeAt

theorem c_l_RunSources (f : Fun) (m : Mch) (hok : Fun.ok f) (seed steps : Int) : ACallIs B.P 5 [f.av, m.av, .i64 seed, .i64 steps] (.bool true) := by
  by_cases h0 : flwF f m = 0
  · by_cases hs : steps < 0 ∨ 5000 < steps
    · refine ACallIs.enter B _ _ Try.func5 rfl rfl Try.ntmps5 Try.results5 rfl fun hreal => ?_
      clear hreal
      repeat (first | refine AWp.seq ?_ | refine AWp.block ?_ | refine AWp.skip ?_)
      refine AWp.region ?_
      intro _
      refine AWp.freezeObj 4 rfl rfl ?_
      refine AWp.freezeObj 5 rfl rfl ?_
      repeat (first | refine AWp.seq ?_ | refine AWp.block ?_ | refine AWp.skip ?_)
      refine AWp.region ?_
      refine CallX.pure (c_SourceFar f m hok h0 seed steps hs) rfl rfl rfl ?_
      intro _
      repeat (first | refine AWp.seq ?_ | refine AWp.block ?_ | refine AWp.skip ?_)
      refine AWp.region ?_
      refine CallX.pure (c_SourceRunFar f m hok h0 seed steps hs) rfl rfl rfl ?_
      intro _
      repeat (first | refine AWp.seq ?_ | refine AWp.block ?_ | refine AWp.skip ?_)
      refine AWp.region ?_
      repeat' (first | refine And.intro ?_ ?_ | refine CallK.intro (fun _ => c_sameEvNil) ?_)
      all_goals first | exact fun h => h | exact gT | exact gF | skip
      intro _
      refine AWp.ret ⟨Or.inl rfl, rfl, ?_⟩
      intro _
      rfl
    · obtain ⟨n, rfl⟩ : ∃ n : Nat, steps = (n : Int) := ⟨steps.toNat, by omega⟩
      have hC := chkd_of (show chkF f m = 0 from Classical.byContradiction fun hn => by rw [flwF_1 hn] at h0; exact hn h0)
      have hk := srcF_ok hC seed n 0 0 (fun _ => 0) [] (by have := hC.e.siz.blocks; omega) (Nat.zero_le _) (fun e he => absurd he List.not_mem_nil)
      have hs := c_sameEvents (srcF f seed n 0 0 (fun _ => 0) []) (by have := hk.2; simp only [List.length_nil] at this; unfold maxLen; omega) (fun i hi => Nat.le_trans (hk.1 _ (getD_mem hi)) (by unfold maxLen; omega))
      refine ACallIs.enter B _ _ Try.func5 rfl rfl Try.ntmps5 Try.results5 rfl fun hreal => ?_
      clear hreal
      repeat (first | refine AWp.seq ?_ | refine AWp.block ?_ | refine AWp.skip ?_)
      refine AWp.region ?_
      intro _
      refine AWp.freezeObj 4 rfl rfl ?_
      refine AWp.freezeObj 5 rfl rfl ?_
      repeat (first | refine AWp.seq ?_ | refine AWp.block ?_ | refine AWp.skip ?_)
      refine AWp.region ?_
      refine CallX.pure (c_Source f m hok h0 seed n (by omega)) rfl rfl rfl ?_
      intro _
      repeat (first | refine AWp.seq ?_ | refine AWp.block ?_ | refine AWp.skip ?_)
      refine AWp.region ?_
      refine CallX.pure (c_SourceRun f m hok h0 seed n (by omega)) rfl rfl rfl ?_
      intro _
      repeat (first | refine AWp.seq ?_ | refine AWp.block ?_ | refine AWp.skip ?_)
      refine AWp.region ?_
      repeat' (first | refine And.intro ?_ ?_ | refine CallK.intro (fun _ => hs) ?_)
      all_goals first | exact fun h => h | exact gT | exact gF | skip
      intro _
      refine AWp.ret ⟨Or.inl rfl, rfl, ?_⟩
      intro _
      rfl
  · refine ACallIs.enter B _ _ Try.func5 rfl rfl Try.ntmps5 Try.results5 rfl fun hreal => ?_
    clear hreal
    repeat (first | refine AWp.seq ?_ | refine AWp.block ?_ | refine AWp.skip ?_)
    refine AWp.region ?_
    intro _
    refine AWp.freezeObj 4 rfl rfl ?_
    refine AWp.freezeObj 5 rfl rfl ?_
    repeat (first | refine AWp.seq ?_ | refine AWp.block ?_ | refine AWp.skip ?_)
    refine AWp.region ?_
    refine CallX.pure (c_SourceNo f m hok h0 seed steps) rfl rfl rfl ?_
    intro _
    repeat (first | refine AWp.seq ?_ | refine AWp.block ?_ | refine AWp.skip ?_)
    refine AWp.region ?_
    refine CallX.pure (c_SourceRunNo f m hok h0 seed steps) rfl rfl rfl ?_
    intro _
    repeat (first | refine AWp.seq ?_ | refine AWp.block ?_ | refine AWp.skip ?_)
    refine AWp.region ?_
    repeat' (first | refine And.intro ?_ ?_ | refine CallK.intro (fun _ => c_sameEvNil) ?_)
    all_goals first | exact fun h => h | exact gT | exact gF | skip
    intro _
    refine AWp.ret ⟨Or.inl rfl, rfl, ?_⟩
    intro _
    refine tupB (show (bif flwF f m == flwF f m then true else false) = true from ?_)
    simp
set_option maxRecDepth 100000 in
theorem calls {H : Type} {enc : TypeId × Value → H} (w : World) {d0 d1 d2 d3 : DataW H}
    (hw : (DataW.weightsEach Try.prog [41, 24, 3, 3] [d0, d1, d2, d3]).all (· ≤ reachBytes) = true)
    (v0 : Value) {r0 : Reach} {b0 : Nat} {p0 : List MemPlace} {s0 : Nat → Bool} {e0 : Bool} (ok0 : Value.okWide Try.prog w r0 b0 41 v0) (h0 : DataW.Trod enc Try.prog w 0 s0 e0 41 v0 d0 p0)
    (v1 : Value) {r1 : Reach} {b1 : Nat} {p1 : List MemPlace} {s1 : Nat → Bool} {e1 : Bool} (ok1 : Value.okWide Try.prog w r1 b1 24 v1) (h1 : DataW.Trod enc Try.prog w 0 s1 e1 24 v1 d1 p1)
    (v2 : Value) {r2 : Reach} {b2 : Nat} {p2 : List MemPlace} {s2 : Nat → Bool} {e2 : Bool} (ok2 : Value.okWide Try.prog w r2 b2 3 v2) (h2 : DataW.Trod enc Try.prog w 0 s2 e2 3 v2 d2 p2)
    (v3 : Value) {r3 : Reach} {b3 : Nat} {p3 : List MemPlace} {s3 : Nat → Bool} {e3 : Bool} (ok3 : Value.okWide Try.prog w r3 b3 3 v3) (h3 : DataW.Trod enc Try.prog w 0 s3 e3 3 v3 d3 p3)
    : Calls Try.prog 5 #[v0, v1, v2, v3] w fun e w' => e = .returned (.bool true) ∧ Below w.heap.size w w' := by
  obtain ⟨_, ⟨f, rfl, fk⟩, m0⟩ := open_value o_fun hw 0 rfl rfl h0
  obtain ⟨c0, q0, _⟩ := okWide_struct Try.underlying41 ok0
  obtain ⟨_, ⟨m, rfl, mk⟩, m1⟩ := open_value o_mch hw 1 rfl rfl h1
  obtain ⟨c1, q1, _⟩ := okWide_struct Try.underlying24 ok1
  obtain ⟨_, ⟨seed, rfl, seedk⟩, m2⟩ := open_value o_int hw 2 rfl rfl h2
  obtain ⟨_, ⟨steps, rfl, stepsk⟩, m3⟩ := open_value o_int hw 3 rfl rfl h3
  exact law_calls (c_l_RunSources f m fk seed steps) w [v0, v1, v2, v3] rfl fun j y hy => by
    match j, hy with
    | 0, hy => simp at hy; subst hy; exact rep_agg_of q0 m0
    | 1, hy => simp at hy; subst hy; exact rep_agg_of q1 m1
    | 2, hy => simp at hy; subst hy; exact rep_one_of (one_int Try.underlying3 ok2) m2
    | 3, hy => simp at hy; subst hy; exact rep_one_of (one_int Try.underlying3 ok3) m3

set_option maxRecDepth 100000 in
theorem lifted (os : Os) (started : os.Started) (H : Type) (enc : TypeId × Value → H) :
    ReturnsInHanded {} Try.checked os 5 .any (Rows.runSourcesSpec.pre6 enc Try.prog Try.f5 Rows.runSourcesRow.domain false) (Rows.runSourcesSpec.post enc Try.prog Try.f5 false true false false) := by
  refine returnsInHanded_of_change_sized (C := Try.checked) own started (by kernel_rfl) Try.func5
    (ChangeSpec.witness6 (enc := enc) (C := Try.checked) false ⟨#[], #[.agg #[.slice none 0 0, .slice none 0 0], .agg #[.int .i64 0, .int .i64 0], .int .i64 0, .int .i64 0], []⟩ 8 (by kernel_rfl) (by kernel_rfl) (by kernel_rfl) (by kernel_rfl)) ?_
  intro W base args ds gs before hval0 hW hcnd hwt hsz0
  have hval : ∀ (j : Nat) t v, Try.f5.params[j]? = some t → args[j]? = some v → Value.okWide Try.prog W .any base t v := hval0
  have hW' := hW
  obtain ⟨p, q, hA0, hV, rfl, hfz, hnd⟩ := hW
  have hA : DataW.TrodAll enc Try.prog W 0 (fun _ => true) true Try.f5.params.toList args.toList ds p := hA0
  rw [Try.params5] at hA hval
  obtain ⟨v0, vs0, d0, ds0, p0, q0, hargs, rfl, rfl, h0, r0⟩ := trodAll_cons hA
  obtain ⟨v1, vs1, d1, ds1, p1, q1, rfl, rfl, rfl, h1, r1⟩ := trodAll_cons r0
  obtain ⟨v2, vs2, d2, ds2, p2, q2, rfl, rfl, rfl, h2, r2⟩ := trodAll_cons r1
  obtain ⟨v3, vs3, d3, ds3, p3, q3, rfl, rfl, rfl, h3, r3⟩ := trodAll_cons r2
  obtain ⟨rfl, rfl, rfl⟩ := trodAll_nil r3
  obtain rfl : args = #[v0, v1, v2, v3] := by cases args; simp_all
  obtain ⟨rfl, rfl⟩ := trodVars_none hV
  have lt0 : ∀ x ∈ p0, x.block < W.heap.size := by obtain ⟨m, hm⟩ := h0; exact DataW.trod_lt m _ _ _ hm
  have ok0 := hval 0 41 v0 rfl rfl
  have lt1 : ∀ x ∈ p1, x.block < W.heap.size := by obtain ⟨m, hm⟩ := h1; exact DataW.trod_lt m _ _ _ hm
  have ok1 := hval 1 24 v1 rfl rfl
  have lt2 : ∀ x ∈ p2, x.block < W.heap.size := by obtain ⟨m, hm⟩ := h2; exact DataW.trod_lt m _ _ _ hm
  have ok2 := hval 2 3 v2 rfl rfl
  have lt3 : ∀ x ∈ p3, x.block < W.heap.size := by obtain ⟨m, hm⟩ := h3; exact DataW.trod_lt m _ _ _ hm
  have ok3 := hval 3 3 v3 rfl rfl
  clear hA0 hval0
  have hw2 : (DataW.weightsEach Try.prog [41, 24, 3, 3] [d0, d1, d2, d3]).all (· ≤ reachBytes) = true := by
    have h := hwt
    rw [Try.params5] at h
    exact h
  refine (calls W hw2 _ ok0 h0 _ ok1 h1 _ ok2 h2 _ ok3 h3).mono fun e W' ⟨he, bel⟩ => ?_
  subst he
  exact ⟨_, rfl, _, _, _, [], _, [], hW', trodAll_mk1 (shut_bool Try.underlying4 _), (trodAll_cons_mk (Below.trod laidOut (by kernel_rfl) (of_decide_eq_true (by kernel_rfl)) h0 bel lt0) (trodAll_cons_mk (Below.trod laidOut (by kernel_rfl) (of_decide_eq_true (by kernel_rfl)) h1 bel lt1) (trodAll_cons_mk (Below.trod laidOut (by kernel_rfl) (of_decide_eq_true (by kernel_rfl)) h2 bel lt2) (trodAll_cons_mk (Below.trod laidOut (by kernel_rfl) (of_decide_eq_true (by kernel_rfl)) h3 bel lt3) trodAll_mk0)))), rfl, bel.frame _, fun h => by cases h⟩

theorem over : Rows.runSourcesRow.holds Try.pinned (OpenSpec.ofChange Rows.runSourcesSpec) :=
  OpenClaim.holds_of_wide 5 Try.f5 rfl rfl rfl rfl rfl rfl rfl ⟨rfl, rfl, rfl, rfl, rfl⟩ rfl rfl rfl rfl rfl (by kernel_rfl) Try.func5 (by kernel_rfl)
    (of_decide_eq_true (by kernel_rfl)) (by unfold Func.isWrapper; first | (rw [if_pos (by decide +kernel)]; kernel_rfl) | (rw [if_neg (by decide +kernel)]; exact ⟨rfl, rfl⟩))
    (fun os started H enc _ => lifted os started H enc)

theorem proved : Rows.RunSourcesSaid := over
#print axioms proved

end Go.Proofs.Ytpmbbanoiipepaa.runSources
