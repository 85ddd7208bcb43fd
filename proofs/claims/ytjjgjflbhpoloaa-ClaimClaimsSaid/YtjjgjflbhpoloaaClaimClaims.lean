/- The law ClaimClaims returns true at every function and machine: claim.Claims answers as the document's ClaimsOf. No condition. -/
import Derived.Test.YtjjgjflbhpoloaaClm
import Derived.Test.YtjjgjflbhpoloaaRows
import Derived.WalkKit
import Derived.ProofKit
import Derived.OpenShut
import Derived.ChangeOld
import Derived.Below
import Derived.SizedLaws
set_option linter.unusedVariables false
namespace Go.Proofs.Ytjjgjflbhpoloaa.claimClaims
open Go Go.Abs Go.RowKit Go.ChangeShapes Go.WideShapes Go.ChangeAt
theorem c_l_ClaimClaims (f : Fun) (m : Mch) (hok : Fun.ok f) : ACallIs B.P 9 [f.av, m.av] (.bool true) := by
 by_cases h0 : flwF f m = 0
 ·have hc0 : chkF f m = 0 := Classical.byContradiction fun hn => by rw [flwF_1 hn] at h0; exact hn h0
  obtain ⟨_, z1, z2, _, _⟩ := chkF_zero hc0
  have hz := sizOk_of z1
  have hv := vOk_of z1 z2
  have h : ∀ b a, b < f.Blocks.length → a < (f.Blocks.getD b default).Instrs.length → ClmOk f (xAt f b a) := fun b a hb ha => clm_ok hc0 hz hv hb ha
  have hl : (insA (clB f f.Blocks.length)).length ≤ maxLen := by
   have h1 := insA_len (clB f f.Blocks.length)
   have h2 := clB_len hz f.Blocks.length (Nat.le_refl _)
   have h3 := hz.blocks
   unfold maxLen; omega
  have hs := c_sameClaims (insA (clB f f.Blocks.length)) hl
  refine ACallIs.enter B _ _ Try.func9 rfl rfl Try.ntmps9 Try.results9 rfl fun hreal => ?_
  clear hreal
  repeat (first|apply zq|apply zb|apply zk)
  apply zr
  intro _
  refine AWp.freezeObj 2 rfl rfl ?_
  refine AWp.freezeObj 3 rfl rfl ?_
  repeat (first|apply zq|apply zb|apply zk)
  apply zr
  refine CallX.pure (c_Claims f m hok hz h0 h) rfl rfl rfl ?_
  intro _
  repeat (first|apply zq|apply zb|apply zk)
  apply zr
  refine CallX.pure (c_ClaimsOf f m hok hz h0 h) rfl rfl rfl ?_
  intro _
  repeat (first|apply zq|apply zb|apply zk)
  apply zr
  repeat' (first|refine And.intro ?_ ?_|refine CallK.intro (fun _ => hs) ?_)
  all_goals first|exact fun h => h|exact gT|exact gF|skip
  intro _
  refine AWp.ret ⟨Or.inl rfl, rfl, ?_⟩
  intro _
  rfl
 ·have hs := c_sameClaimsNil
  refine ACallIs.enter B _ _ Try.func9 rfl rfl Try.ntmps9 Try.results9 rfl fun hreal => ?_
  clear hreal
  repeat (first|apply zq|apply zb|apply zk)
  apply zr
  intro _
  refine AWp.freezeObj 2 rfl rfl ?_
  refine AWp.freezeObj 3 rfl rfl ?_
  repeat (first|apply zq|apply zb|apply zk)
  apply zr
  refine CallX.pure (c_ClaimsNo f m hok h0) rfl rfl rfl ?_
  intro _
  repeat (first|apply zq|apply zb|apply zk)
  apply zr
  refine CallX.pure (c_ClaimsOfNo f m hok h0) rfl rfl rfl ?_
  intro _
  repeat (first|apply zq|apply zb|apply zk)
  apply zr
  repeat' (first|refine And.intro ?_ ?_|refine CallK.intro (fun _ => hs) ?_)
  all_goals first|exact fun h => h|exact gT|exact gF|skip
  intro _
  refine AWp.ret ⟨Or.inl rfl, rfl, ?_⟩
  intro _
  refine tupB (show (bif flwF f m == flwF f m then true else false) = true from ?_)
  simp
set_option maxRecDepth 100000 in
theorem calls {H : Type} {enc : TypeId × Value → H} (w : World) {d0 d1 : DataW H}
  (hw : (DataW.weightsEach Try.prog [41, 24] [d0, d1]).all (· ≤ reachBytes) = true)
  (v0 : Value) {r0 : Reach} {b0 : Nat} {p0 : List MemPlace} {s0 : Nat → Bool} {e0 : Bool} (ok0 : Value.okWide Try.prog w r0 b0 41 v0) (h0 : DataW.Trod enc Try.prog w 0 s0 e0 41 v0 d0 p0)
  (v1 : Value) {r1 : Reach} {b1 : Nat} {p1 : List MemPlace} {s1 : Nat → Bool} {e1 : Bool} (ok1 : Value.okWide Try.prog w r1 b1 24 v1) (h1 : DataW.Trod enc Try.prog w 0 s1 e1 24 v1 d1 p1)
  : Calls Try.prog 9 #[v0, v1] w fun e w' => e = .returned (.bool true) ∧ Below w.heap.size w w' := by
 obtain ⟨_, ⟨f, rfl, fk⟩, m0⟩ := open_value o_fun hw 0 rfl rfl h0
 obtain ⟨c0, q0, _⟩ := okWide_struct Try.underlying41 ok0
 obtain ⟨_, ⟨m, rfl, mk⟩, m1⟩ := open_value o_mch hw 1 rfl rfl h1
 obtain ⟨c1, q1, _⟩ := okWide_struct Try.underlying24 ok1
 exact law_calls (c_l_ClaimClaims f m fk) w [v0, v1] rfl fun j y hy => by
  match j, hy with
  | 0, hy => simp at hy; subst hy; exact rep_agg_of q0 m0
  | 1, hy => simp at hy; subst hy; exact rep_agg_of q1 m1
set_option maxRecDepth 100000 in
theorem lifted (os : Os) (started : os.Started) (H : Type) (enc : TypeId × Value → H) :
  ReturnsInHanded {} Try.checked os 9 .any (Rows.claimClaimsSpec.pre6 enc Try.prog Try.f9 Rows.claimClaimsRow.domain false) (Rows.claimClaimsSpec.post enc Try.prog Try.f9 false true false false) := by
 refine returnsInHanded_of_change_sized (C := Try.checked) own started (by kernel_rfl) Try.func9
  (ChangeSpec.witness6 (enc := enc) (C := Try.checked) false ⟨#[], #[.agg #[.slice none 0 0, .slice none 0 0], .agg #[.int .i64 0, .int .i64 0]], []⟩ 8 (by kernel_rfl) (by kernel_rfl) (by kernel_rfl) (by kernel_rfl)) ?_
 intro W base args ds gs before hval0 hW hcnd hwt hsz0
 have hval : ∀ (j : Nat) t v, Try.f9.params[j]? = some t → args[j]? = some v → Value.okWide Try.prog W .any base t v := hval0
 have hW' := hW
 obtain ⟨p, q, hA0, hV, rfl, hfz, hnd⟩ := hW
 have hA : DataW.TrodAll enc Try.prog W 0 (fun _ => true) true Try.f9.params.toList args.toList ds p := hA0
 rw [Try.params9] at hA hval
 obtain ⟨v0, vs0, d0, ds0, p0, q0, hargs, rfl, rfl, h0, r0⟩ := trodAll_cons hA
 obtain ⟨v1, vs1, d1, ds1, p1, q1, rfl, rfl, rfl, h1, r1⟩ := trodAll_cons r0
 obtain ⟨rfl, rfl, rfl⟩ := trodAll_nil r1
 obtain rfl : args = #[v0, v1] := by cases args; simp_all
 obtain ⟨rfl, rfl⟩ := trodVars_none hV
 have lt0 : ∀ x ∈ p0, x.block < W.heap.size := by obtain ⟨m, hm⟩ := h0; exact DataW.trod_lt m _ _ _ hm
 have ok0 := hval 0 41 v0 rfl rfl
 have lt1 : ∀ x ∈ p1, x.block < W.heap.size := by obtain ⟨m, hm⟩ := h1; exact DataW.trod_lt m _ _ _ hm
 have ok1 := hval 1 24 v1 rfl rfl
 clear hA0 hval0
 have hw2 : (DataW.weightsEach Try.prog [41, 24] [d0, d1]).all (· ≤ reachBytes) = true := by
  have h := hwt
  rw [Try.params9] at h
  exact h
 refine (calls W hw2 _ ok0 h0 _ ok1 h1).mono fun e W' ⟨he, bel⟩ => ?_
 subst he
 exact ⟨_, rfl, _, _, _, [], _, [], hW', trodAll_mk1 (shut_bool Try.underlying4 _), (trodAll_cons_mk (Below.trod laidOut (by kernel_rfl) (of_decide_eq_true (by kernel_rfl)) h0 bel lt0) (trodAll_cons_mk (Below.trod laidOut (by kernel_rfl) (of_decide_eq_true (by kernel_rfl)) h1 bel lt1) trodAll_mk0)), rfl, bel.frame _, fun h => by cases h⟩
theorem over : Rows.claimClaimsRow.holds Try.pinned (OpenSpec.ofChange Rows.claimClaimsSpec) :=
 OpenClaim.holds_of_wide 9 Try.f9 rfl rfl rfl rfl rfl rfl rfl ⟨rfl, rfl, rfl, rfl, rfl⟩ rfl rfl rfl rfl rfl (by kernel_rfl) Try.func9 (by kernel_rfl)
  (of_decide_eq_true (by kernel_rfl)) (by unfold Func.isWrapper; first|(rw [if_pos (by decide +kernel)]; kernel_rfl)|(rw [if_neg (by decide +kernel)]; exact ⟨rfl, rfl⟩))
  (fun os started H enc _ => lifted os started H enc)
theorem proved : Rows.ClaimClaimsSaid := over
#print axioms proved
end Go.Proofs.Ytjjgjflbhpoloaa.claimClaims
