/- The law GroupGroups returns true at every function and machine: group.Groups answers as the document's GroupsOf. No condition. -/
import Derived.Test.YtjjgjflbhpoloaaGreatGrp
import Derived.Test.YtjjgjflbhpoloaaGreatRows
import Derived.WalkKit
import Derived.ProofKit
import Derived.OpenShut
import Derived.ChangeOld
import Derived.Below
import Derived.SizedLaws
set_option linter.unusedVariables false
namespace Go.Proofs.YtjjgjflbhpoloaaGreat.groupGroups
open Go Go.Abs Go.RowKit Go.ChangeShapes Go.WideShapes Go.ChangeAt
theorem c_GroupsNo (f : Fun) (m : Mch) (hok : Fun.ok f) (h0 : flwF f m ≠ 0) : ACallIs B.P 4 [f.av, m.av] (.tup [nilV, .i64 (flwF f m)]) := by
 refine ACallIs.enter B _ _ Tryz.func4 rfl rfl Tryz.ntmps4 Tryz.results4 rfl fun _ => ?_
 repeat (first|apply zq|apply zb|apply zk)
 apply zr;intro _
 refine AWp.freezeObj 2 rfl rfl ?_
 refine AWp.freezeObj 3 rfl rfl ?_
 repeat (first|apply zq|apply zb|apply zk)
 apply zr
 refine CallX.pure (c_SpansNo f m hok h0) rfl rfl rfl ?_
 intro _
 repeat (first|apply zq|apply zb|apply zk)
 apply zr;intro _
 repeat (first|apply zq|apply zb|apply zk)
 apply AWp.cond;apply zi<;>intro h1
 ·repeat (first|apply zq|apply zb|apply zk)
  apply zr;intro _
  refine AWp.ret ⟨Or.inl rfl, rfl, ?_⟩
  intro _
  rfl
 exact absurd (show (flwF f m != 0) = false from h1) (by simpa using h0)
theorem c_GroupsOfNo (f : Fun) (m : Mch) (hok : Fun.ok f) (h0 : flwF f m ≠ 0) : ACallIs B.P 5 [f.av, m.av] (.tup [nilV, .i64 (flwF f m)]) := by
 refine ACallIs.enter B _ _ Tryz.func5 rfl rfl Tryz.ntmps5 Tryz.results5 rfl fun _ => ?_
 repeat (first|apply zq|apply zb|apply zk)
 apply zr;intro _
 refine AWp.freezeObj 2 rfl rfl ?_
 refine AWp.freezeObj 3 rfl rfl ?_
 repeat (first|apply zq|apply zb|apply zk)
 apply zr
 refine CallX.pure (c_SpansOfNo f m hok h0) rfl rfl rfl ?_
 intro _
 repeat (first|apply zq|apply zb|apply zk)
 apply zr;intro _
 repeat (first|apply zq|apply zb|apply zk)
 apply AWp.cond;apply zi<;>intro h1
 ·repeat (first|apply zq|apply zb|apply zk)
  apply zr;intro _
  refine AWp.ret ⟨Or.inl rfl, rfl, ?_⟩
  intro _
  rfl
 exact absurd (show (flwF f m != 0) = false from h1) (by simpa using h0)
theorem c_l_GroupGroups (f : Fun) (m : Mch) (hok : Fun.ok f) : ACallIs B.P 3 [f.av, m.av] (.bool true) := by
 by_cases h0 : flwF f m = 0
 ·obtain ⟨d, h⟩ := trOk_of h0
  have hC := chkd_of0 h0
  have hc0 : chkF f m = 0 := Classical.byContradiction fun hn => by rw [flwF_1 hn] at h0; exact hn h0
  have hv := hC.e.siz.values
  have hvl : f.Values.length ≤ maxLen := by unfold maxLen; omega
  have hs := c_sameR f.Values.length (fun i => ((rB f.Values.length (gSp f) f f.Blocks.length i : Nat) : Int)) hvl
  refine ACallIs.enter B _ _ Tryz.func3 rfl rfl Tryz.ntmps3 Tryz.results3 rfl fun _ => ?_
  repeat (first|apply zq|apply zb|apply zk)
  apply zr;intro _
  refine AWp.freezeObj 2 rfl rfl ?_
  refine AWp.freezeObj 3 rfl rfl ?_
  repeat (first|apply zq|apply zb|apply zk)
  apply zr
  refine CallX.pure (c_Groups f m hok h hC hc0 h0) rfl rfl rfl ?_
  intro _
  repeat (first|apply zq|apply zb|apply zk)
  apply zr
  refine CallX.pure (c_GroupsOf f m hok hC hc0 h0) rfl rfl rfl ?_
  intro _
  repeat (first|apply zq|apply zb|apply zk)
  apply zr
  repeat' (first|apply zi|refine CallK.intro (fun _ => hs) ?_)
  all_goals first|exact fun h => h|exact gT|exact gF|skip
  intro _
  refine AWp.ret ⟨Or.inl rfl, rfl, ?_⟩
  intro _
  rfl
 ·have hs := c_sameNil
  refine ACallIs.enter B _ _ Tryz.func3 rfl rfl Tryz.ntmps3 Tryz.results3 rfl fun _ => ?_
  repeat (first|apply zq|apply zb|apply zk)
  apply zr;intro _
  refine AWp.freezeObj 2 rfl rfl ?_
  refine AWp.freezeObj 3 rfl rfl ?_
  repeat (first|apply zq|apply zb|apply zk)
  apply zr
  refine CallX.pure (c_GroupsNo f m hok h0) rfl rfl rfl ?_
  intro _
  repeat (first|apply zq|apply zb|apply zk)
  apply zr
  refine CallX.pure (c_GroupsOfNo f m hok h0) rfl rfl rfl ?_
  intro _
  repeat (first|apply zq|apply zb|apply zk)
  apply zr
  repeat' (first|apply zi|refine CallK.intro (fun _ => hs) ?_)
  all_goals first|exact fun h => h|exact gT|exact gF|skip
  intro _
  refine AWp.ret ⟨Or.inl rfl, rfl, ?_⟩
  intro _
  refine tupB (show (bif flwF f m == flwF f m then true else false) = true from ?_)
  simp
set_option maxRecDepth 100000 in
theorem calls {H : Type} {enc : TypeId × Value → H} (w : World) {d0 d1 : DataW H}
  (hw : (DataW.weightsEach Tryz.prog [25, 28] [d0, d1]).all (· ≤ reachBytes) = true)
  (v0 : Value) {r0 : Reach} {b0 : Nat} {p0 : List MemPlace} {s0 : Nat → Bool} {e0 : Bool} (ok0 : Value.okWide Tryz.prog w r0 b0 25 v0) (h0 : DataW.Trod enc Tryz.prog w 0 s0 e0 25 v0 d0 p0)
  (v1 : Value) {r1 : Reach} {b1 : Nat} {p1 : List MemPlace} {s1 : Nat → Bool} {e1 : Bool} (ok1 : Value.okWide Tryz.prog w r1 b1 28 v1) (h1 : DataW.Trod enc Tryz.prog w 0 s1 e1 28 v1 d1 p1)
  : Calls Tryz.prog 3 #[v0, v1] w fun e w' => e = .returned (.bool true) ∧ Below w.heap.size w w' := by
 obtain ⟨_, ⟨f, rfl, fk⟩, m0⟩ := open_value o_fun hw 0 rfl rfl h0
 obtain ⟨c0, q0, _⟩ := okWide_struct Tryz.underlying25 ok0
 obtain ⟨_, ⟨m, rfl, mk⟩, m1⟩ := open_value o_mch hw 1 rfl rfl h1
 obtain ⟨c1, q1, _⟩ := okWide_struct Tryz.underlying28 ok1
 exact law_calls (c_l_GroupGroups f m fk) w [v0, v1] rfl fun j y hy => by
  match j, hy with
  | 0, hy => simp at hy; subst hy; exact rep_agg_of q0 m0
  | 1, hy => simp at hy; subst hy; exact rep_agg_of q1 m1
set_option maxRecDepth 100000 in
theorem lifted (os : Os) (started : os.Started) (H : Type) (enc : TypeId × Value → H) :
  ReturnsInHanded {} Tryz.checked os 3 .any (Rows.groupGroupsSpec.pre6 enc Tryz.prog Tryz.f3 Rows.groupGroupsRow.domain false) (Rows.groupGroupsSpec.post enc Tryz.prog Tryz.f3 false true false false) := by
 refine returnsInHanded_of_change_sized (C := Tryz.checked) own started (by kernel_rfl) Tryz.func3
  (ChangeSpec.witness6 (enc := enc) (C := Tryz.checked) false ⟨#[], #[.agg #[.slice none 0 0, .slice none 0 0], .agg #[.int .i64 0, .int .i64 0]], []⟩ 8 (by kernel_rfl) (by kernel_rfl) (by kernel_rfl) (by kernel_rfl)) ?_
 intro W base args ds gs before hval0 hW hcnd hwt hsz0
 have hval : ∀ (j : Nat) t v, Tryz.f3.params[j]? = some t → args[j]? = some v → Value.okWide Tryz.prog W .any base t v := hval0
 have hW' := hW
 obtain ⟨p, q, hA0, hV, rfl, hfz, hnd⟩ := hW
 have hA : DataW.TrodAll enc Tryz.prog W 0 (fun _ => true) true Tryz.f3.params.toList args.toList ds p := hA0
 rw [Tryz.params3] at hA hval
 obtain ⟨v0, vs0, d0, ds0, p0, q0, hargs, rfl, rfl, h0, r0⟩ := trodAll_cons hA
 obtain ⟨v1, vs1, d1, ds1, p1, q1, rfl, rfl, rfl, h1, r1⟩ := trodAll_cons r0
 obtain ⟨rfl, rfl, rfl⟩ := trodAll_nil r1
 obtain rfl : args = #[v0, v1] := by cases args; simp_all
 obtain ⟨rfl, rfl⟩ := trodVars_none hV
 have lt0 : ∀ x ∈ p0, x.block < W.heap.size := by obtain ⟨m, hm⟩ := h0; exact DataW.trod_lt m _ _ _ hm
 have ok0 := hval 0 25 v0 rfl rfl
 have lt1 : ∀ x ∈ p1, x.block < W.heap.size := by obtain ⟨m, hm⟩ := h1; exact DataW.trod_lt m _ _ _ hm
 have ok1 := hval 1 28 v1 rfl rfl
 clear hA0 hval0
 have hw2 : (DataW.weightsEach Tryz.prog [25, 28] [d0, d1]).all (· ≤ reachBytes) = true := by
  have h := hwt
  rw [Tryz.params3] at h
  exact h
 refine (calls W hw2 _ ok0 h0 _ ok1 h1).mono fun e W' ⟨he, bel⟩ => ?_
 subst he
 exact ⟨_, rfl, _, _, _, [], _, [], hW', trodAll_mk1 (shut_bool Tryz.underlying4 _), (trodAll_cons_mk (Below.trod laidOut (by kernel_rfl) (of_decide_eq_true (by kernel_rfl)) h0 bel lt0) (trodAll_cons_mk (Below.trod laidOut (by kernel_rfl) (of_decide_eq_true (by kernel_rfl)) h1 bel lt1) trodAll_mk0)), rfl, bel.frame _, fun h => by cases h⟩
theorem over : Rows.groupGroupsRow.holds Tryz.pinned (OpenSpec.ofChange Rows.groupGroupsSpec) :=
 OpenClaim.holds_of_wide 3 Tryz.f3 rfl rfl rfl rfl rfl rfl rfl ⟨rfl, rfl, rfl, rfl, rfl⟩ rfl rfl rfl rfl rfl (by kernel_rfl) Tryz.func3 (by kernel_rfl)
  (of_decide_eq_true (by kernel_rfl)) (by unfold Func.isWrapper; first|(rw [if_pos (by decide +kernel)]; kernel_rfl)|(rw [if_neg (by decide +kernel)]; exact ⟨rfl, rfl⟩))
  (fun os started H enc _ => lifted os started H enc)
theorem proved : Rows.GroupGroupsSaid := over
#print axioms proved
end Go.Proofs.YtjjgjflbhpoloaaGreat.groupGroups
