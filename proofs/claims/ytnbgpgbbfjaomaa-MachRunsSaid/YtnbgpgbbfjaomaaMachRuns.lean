/- The law MachRuns returns true at every function, machine, output, seed, junk and number of steps: mach.Run answers as the document's OutputRun. No condition. -/
import Derived.Test.YtnbgpgbbfjaomaaMru
import Derived.Test.YtnbgpgbbfjaomaaRows
import Derived.WalkKit
import Derived.ProofKit
import Derived.OpenShut
import Derived.ChangeOld
import Derived.Below
import Derived.SizedLaws
set_option linter.unusedVariables false
namespace Go.Proofs.Ytnbgpgbbfjaomaa.machRuns
open Go Go.Abs Go.RowKit Go.ChangeShapes Go.WideShapes Go.ChangeAt

theorem c_l_MachRuns (f : Fun) (m : Mch) (o : Oup) (hok : Fun.ok f) (hoo : Oup.ok o) (seed : Int) (J : List Int) (hj : J.length * 8 ≤ 140737488351232) (steps : Int) : ACallIs B.P 5 [f.av, m.av, o.av, .i64 seed, ints J, .i64 steps] (.bool true) := by
  have hi := c_ints J (by omega)
  by_cases h0 : resF f m o J steps = 0
  · have h1 : outF f m o = 0 := Classical.byContradiction fun hn => by rw [resF_1 hn] at h0; exact hn h0
    have h2 : ¬ (steps < 0 ∨ 5000 < steps) := fun hn => by rw [resF_2 h1 hn] at h0; cases h0
    have h3 : ¬ 64 < J.length := fun hn => by rw [resF_3 h1 h2 hn] at h0; cases h0
    obtain ⟨n, rfl⟩ : ∃ n : Nat, steps = (n : Int) := ⟨steps.toNat, by omega⟩
    obtain ⟨_, fr, hO⟩ := out_ok h1
    have hC := chkd_of hO.chk0
    have hk := outS_ok (o := o) (J := J) (seed := seed) hC n 0 0 (boxA m J fr) [] (by have := hC.e.siz.blocks; omega) (Nat.zero_le _) (fun e he => absurd he List.not_mem_nil)
    have hs := c_sameEvents (outS f o J seed n 0 0 (boxA m J fr) []) (by have := hk.2; simp only [List.length_nil] at this; unfold maxLen; omega) (fun i hi => Nat.le_trans (hk.1 _ (getD_mem hi)) (by unfold maxLen; omega))
    refine ACallIs.enter B _ _ Try.func5 rfl rfl Try.ntmps5 Try.results5 rfl fun hreal => ?_
    clear hreal
    repeat (first | refine AWp.seq ?_ | refine AWp.block ?_ | refine AWp.skip ?_)
    refine AWp.region ?_
    intro _
    refine AWp.freezeObj 6 rfl rfl ?_
    refine AWp.freezeObj 7 rfl rfl ?_
    refine AWp.freezeObj 8 rfl rfl ?_
    repeat (first | refine AWp.seq ?_ | refine AWp.block ?_ | refine AWp.skip ?_)
    refine AWp.quietP (.q 0 (.q 1 (.q 2 (.q 3 (.q 4 (.q 6 (.c 5 false (.c 7 true (.q 8 (.q 9 (.q 10 (.q 11 (.q 12 .fin))))) .no) .no))))))) [0, 1, 2, 3, 4, 6, 8, 9, 10, 11, 12] [] mixed (by kernel_rfl) ?_
    repeat' (first | exact trivial | refine And.intro ?_ ?_ | refine CallX.pure hi rfl rfl rfl ?_ | refine CallX.pure (c_MachRun f m o hok hoo hO h1 seed J (by omega) n (by omega)) rfl rfl rfl ?_ | fail)
    intro _
    repeat (first | refine AWp.seq ?_ | refine AWp.block ?_ | refine AWp.skip ?_)
    refine AWp.region ?_
    refine CallX.pure (c_OutputRun f m o hok hoo hO h1 seed J (by omega) n (by omega)) rfl rfl rfl ?_
    intro _
    repeat (first | refine AWp.seq ?_ | refine AWp.block ?_ | refine AWp.skip ?_)
    refine AWp.region ?_
    repeat' (first | refine And.intro ?_ ?_ | refine CallK.intro (fun _ => hs) ?_)
    all_goals first | exact fun h => h | exact gT | exact gF | skip
    intro _
    refine AWp.ret ⟨Or.inl rfl, rfl, ?_⟩
    intro _
    rfl
  · refine ACallIs.enter B _ _ Try.func5 rfl rfl Try.ntmps5 Try.results5 rfl fun hreal => ?_
    clear hreal
    repeat (first | refine AWp.seq ?_ | refine AWp.block ?_ | refine AWp.skip ?_)
    refine AWp.region ?_
    intro _
    refine AWp.freezeObj 6 rfl rfl ?_
    refine AWp.freezeObj 7 rfl rfl ?_
    refine AWp.freezeObj 8 rfl rfl ?_
    repeat (first | refine AWp.seq ?_ | refine AWp.block ?_ | refine AWp.skip ?_)
    refine AWp.quietP (.q 0 (.q 1 (.q 2 (.q 3 (.q 4 (.q 6 (.c 5 false (.c 7 true (.q 8 (.q 9 (.q 10 (.q 11 (.q 12 .fin))))) .no) .no))))))) [0, 1, 2, 3, 4, 6, 8, 9, 10, 11, 12] [] mixed (by kernel_rfl) ?_
    repeat' (first | exact trivial | refine And.intro ?_ ?_ | refine CallX.pure hi rfl rfl rfl ?_ | refine CallX.pure (c_MachRunNo f m o hok hoo seed J steps h0) rfl rfl rfl ?_ | fail)
    intro _
    repeat (first | refine AWp.seq ?_ | refine AWp.block ?_ | refine AWp.skip ?_)
    refine AWp.region ?_
    refine CallX.pure (c_OutputRunNo f m o hok hoo seed J steps h0) rfl rfl rfl ?_
    intro _
    repeat (first | refine AWp.seq ?_ | refine AWp.block ?_ | refine AWp.skip ?_)
    refine AWp.region ?_
    repeat' (first | refine And.intro ?_ ?_ | refine CallK.intro (fun _ => c_sameEvNil) ?_)
    all_goals first | exact fun h => h | exact gT | exact gF | skip
    intro _
    refine AWp.ret ⟨Or.inl rfl, rfl, ?_⟩
    intro _
    refine tupB (show (bif resF f m o J steps == resF f m o J steps then true else false) = true from ?_)
    simp
set_option maxRecDepth 100000 in
theorem calls {H : Type} {enc : TypeId × Value → H} (w : World) {d0 d1 d2 d3 d4 d5 : DataW H}
    (hw : (DataW.weightsEach Try.prog [29, 25, 48, 3, 26, 3] [d0, d1, d2, d3, d4, d5]).all (· ≤ reachBytes) = true)
    (v0 : Value) {r0 : Reach} {b0 : Nat} {p0 : List MemPlace} {s0 : Nat → Bool} {e0 : Bool} (ok0 : Value.okWide Try.prog w r0 b0 29 v0) (h0 : DataW.Trod enc Try.prog w 0 s0 e0 29 v0 d0 p0)
    (v1 : Value) {r1 : Reach} {b1 : Nat} {p1 : List MemPlace} {s1 : Nat → Bool} {e1 : Bool} (ok1 : Value.okWide Try.prog w r1 b1 25 v1) (h1 : DataW.Trod enc Try.prog w 0 s1 e1 25 v1 d1 p1)
    (v2 : Value) {r2 : Reach} {b2 : Nat} {p2 : List MemPlace} {s2 : Nat → Bool} {e2 : Bool} (ok2 : Value.okWide Try.prog w r2 b2 48 v2) (h2 : DataW.Trod enc Try.prog w 0 s2 e2 48 v2 d2 p2)
    (v3 : Value) {r3 : Reach} {b3 : Nat} {p3 : List MemPlace} {s3 : Nat → Bool} {e3 : Bool} (ok3 : Value.okWide Try.prog w r3 b3 3 v3) (h3 : DataW.Trod enc Try.prog w 0 s3 e3 3 v3 d3 p3)
    (v4 : Value) {r4 : Reach} {b4 : Nat} {p4 : List MemPlace} {s4 : Nat → Bool} {e4 : Bool} (ok4 : Value.okWide Try.prog w r4 b4 26 v4) (h4 : DataW.Trod enc Try.prog w 0 s4 e4 26 v4 d4 p4)
    (v5 : Value) {r5 : Reach} {b5 : Nat} {p5 : List MemPlace} {s5 : Nat → Bool} {e5 : Bool} (ok5 : Value.okWide Try.prog w r5 b5 3 v5) (h5 : DataW.Trod enc Try.prog w 0 s5 e5 3 v5 d5 p5)
    : Calls Try.prog 5 #[v0, v1, v2, v3, v4, v5] w fun e w' => e = .returned (.bool true) ∧ Below w.heap.size w w' := by
  obtain ⟨_, ⟨f, rfl, fk⟩, m0⟩ := open_value o_fun hw 0 rfl rfl h0
  obtain ⟨c0, q0, _⟩ := okWide_struct Try.underlying29 ok0
  obtain ⟨_, ⟨m, rfl, mk⟩, m1⟩ := open_value o_mch hw 1 rfl rfl h1
  obtain ⟨c1, q1, _⟩ := okWide_struct Try.underlying25 ok1
  obtain ⟨_, ⟨o, rfl, ok⟩, m2⟩ := open_value o_out hw 2 rfl rfl h2
  obtain ⟨c2, q2, _⟩ := okWide_struct Try.underlying48 ok2
  obtain ⟨_, ⟨seed, rfl, seedk⟩, m3⟩ := open_value o_int hw 3 rfl rfl h3
  obtain ⟨_, ⟨J, rfl, Jk⟩, m4⟩ := open_value o_ints hw 4 rfl rfl h4
  obtain ⟨_, ⟨steps, rfl, stepsk⟩, m5⟩ := open_value o_int hw 5 rfl rfl h5
  exact law_calls (c_l_MachRuns f m o fk ok seed J Jk.1 steps) w [v0, v1, v2, v3, v4, v5] rfl fun j y hy => by
    match j, hy with
    | 0, hy => simp at hy; subst hy; exact rep_agg_of q0 m0
    | 1, hy => simp at hy; subst hy; exact rep_agg_of q1 m1
    | 2, hy => simp at hy; subst hy; exact rep_agg_of q2 m2
    | 3, hy => simp at hy; subst hy; exact rep_one_of (one_int Try.underlying3 ok3) m3
    | 4, hy => simp at hy; subst hy; exact rep_one_of (one_slice Try.underlying26 ok4) m4
    | 5, hy => simp at hy; subst hy; exact rep_one_of (one_int Try.underlying3 ok5) m5

set_option maxRecDepth 100000 in
theorem lifted (os : Os) (started : os.Started) (H : Type) (enc : TypeId × Value → H) :
    ReturnsInHanded {} Try.checked os 5 .any (Rows.machRunsSpec.pre6 enc Try.prog Try.f5 Rows.machRunsRow.domain false) (Rows.machRunsSpec.post enc Try.prog Try.f5 false true false false) := by
  refine returnsInHanded_of_change_sized (C := Try.checked) own started (by kernel_rfl) Try.func5
    (ChangeSpec.witness6 (enc := enc) (C := Try.checked) false ⟨#[], #[.agg #[.slice none 0 0, .slice none 0 0], .agg #[.int .i64 0, .int .i64 0], .agg #[.slice none 0 0, .slice none 0 0, .int .i64 0], .int .i64 0, .slice none 0 0, .int .i64 0], []⟩ 8 (by kernel_rfl) (by kernel_rfl) (by kernel_rfl) (by kernel_rfl)) ?_
  intro W base args ds gs before hval0 hW hcnd hwt hsz0
  have hval : ∀ (j : Nat) t v, Try.f5.params[j]? = some t → args[j]? = some v → Value.okWide Try.prog W .any base t v := hval0
  have hW' := hW
  obtain ⟨p, q, hA0, hV, rfl, hfz, hnd⟩ := hW
  have hA : DataW.TrodAll enc Try.prog W 0 (fun _ => true) true Try.f5.params.toList args.toList ds p := hA0
  rw [Try.params5] at hA hval
  obtain ⟨v0, vs0, d0, ds0, p0, q0, hargs, rfl, rfl, h0, r0⟩ := trodAll_cons hA
  obtain ⟨v1, vs1, d1, ds1, p1, q1, rfl, rfl, rfl, h1, r1⟩ := trodAll_cons r0
  obtain ⟨v2, vs2, d2, ds2, p2, q2, rfl, rfl, rfl, h2, r2⟩ := trodAll_cons r1
  obtain ⟨v3, vs3, d3, ds3, p3, q3, rfl, rfl, rfl, h3, r3⟩ := trodAll_cons r2
  obtain ⟨v4, vs4, d4, ds4, p4, q4, rfl, rfl, rfl, h4, r4⟩ := trodAll_cons r3
  obtain ⟨v5, vs5, d5, ds5, p5, q5, rfl, rfl, rfl, h5, r5⟩ := trodAll_cons r4
  obtain ⟨rfl, rfl, rfl⟩ := trodAll_nil r5
  obtain rfl : args = #[v0, v1, v2, v3, v4, v5] := by cases args; simp_all
  obtain ⟨rfl, rfl⟩ := trodVars_none hV
  have lt0 : ∀ x ∈ p0, x.block < W.heap.size := by obtain ⟨m, hm⟩ := h0; exact DataW.trod_lt m _ _ _ hm
  have ok0 := hval 0 29 v0 rfl rfl
  have lt1 : ∀ x ∈ p1, x.block < W.heap.size := by obtain ⟨m, hm⟩ := h1; exact DataW.trod_lt m _ _ _ hm
  have ok1 := hval 1 25 v1 rfl rfl
  have lt2 : ∀ x ∈ p2, x.block < W.heap.size := by obtain ⟨m, hm⟩ := h2; exact DataW.trod_lt m _ _ _ hm
  have ok2 := hval 2 48 v2 rfl rfl
  have lt3 : ∀ x ∈ p3, x.block < W.heap.size := by obtain ⟨m, hm⟩ := h3; exact DataW.trod_lt m _ _ _ hm
  have ok3 := hval 3 3 v3 rfl rfl
  have lt4 : ∀ x ∈ p4, x.block < W.heap.size := by obtain ⟨m, hm⟩ := h4; exact DataW.trod_lt m _ _ _ hm
  have ok4 := hval 4 26 v4 rfl rfl
  have lt5 : ∀ x ∈ p5, x.block < W.heap.size := by obtain ⟨m, hm⟩ := h5; exact DataW.trod_lt m _ _ _ hm
  have ok5 := hval 5 3 v5 rfl rfl
  clear hA0 hval0
  have hw2 : (DataW.weightsEach Try.prog [29, 25, 48, 3, 26, 3] [d0, d1, d2, d3, d4, d5]).all (· ≤ reachBytes) = true := by
    have h := hwt
    rw [Try.params5] at h
    exact h
  refine (calls W hw2 _ ok0 h0 _ ok1 h1 _ ok2 h2 _ ok3 h3 _ ok4 h4 _ ok5 h5).mono fun e W' ⟨he, bel⟩ => ?_
  subst he
  exact ⟨_, rfl, _, _, _, [], _, [], hW', trodAll_mk1 (shut_bool Try.underlying4 _), (trodAll_cons_mk (Below.trod laidOut (by kernel_rfl) (of_decide_eq_true (by kernel_rfl)) h0 bel lt0) (trodAll_cons_mk (Below.trod laidOut (by kernel_rfl) (of_decide_eq_true (by kernel_rfl)) h1 bel lt1) (trodAll_cons_mk (Below.trod laidOut (by kernel_rfl) (of_decide_eq_true (by kernel_rfl)) h2 bel lt2) (trodAll_cons_mk (Below.trod laidOut (by kernel_rfl) (of_decide_eq_true (by kernel_rfl)) h3 bel lt3) (trodAll_cons_mk (Below.trod laidOut (by kernel_rfl) (of_decide_eq_true (by kernel_rfl)) h4 bel lt4) (trodAll_cons_mk (Below.trod laidOut (by kernel_rfl) (of_decide_eq_true (by kernel_rfl)) h5 bel lt5) trodAll_mk0)))))), rfl, bel.frame _, fun h => by cases h⟩

theorem over : Rows.machRunsRow.holds Try.pinned (OpenSpec.ofChange Rows.machRunsSpec) :=
  OpenClaim.holds_of_wide 5 Try.f5 rfl rfl rfl rfl rfl rfl rfl ⟨rfl, rfl, rfl, rfl, rfl⟩ rfl rfl rfl rfl rfl (by kernel_rfl) Try.func5 (by kernel_rfl)
    (of_decide_eq_true (by kernel_rfl)) (by unfold Func.isWrapper; first | (rw [if_pos (by decide +kernel)]; kernel_rfl) | (rw [if_neg (by decide +kernel)]; exact ⟨rfl, rfl⟩))
    (fun os started H enc _ => lifted os started H enc)

theorem proved : Rows.MachRunsSaid := over
#print axioms proved

end Go.Proofs.Ytnbgpgbbfjaomaa.machRuns
