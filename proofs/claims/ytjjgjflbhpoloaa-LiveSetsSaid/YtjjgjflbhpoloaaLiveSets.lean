/- The law LiveSets returns true at every function and machine: live.Sets answers as the document's SetsOf. No condition. -/
import Derived.Test.YtjjgjflbhpoloaaLiv
import Derived.Test.YtjjgjflbhpoloaaRows
import Derived.WalkKit
import Derived.ProofKit
import Derived.OpenShut
import Derived.ChangeOld
import Derived.Below
import Derived.SizedLaws
set_option linter.unusedVariables false
namespace Go.Proofs.Ytjjgjflbhpoloaa.liveSets
open Go Go.Abs Go.RowKit Go.ChangeShapes Go.WideShapes Go.ChangeAt
theorem c_l_LiveSets (f : Fun) (m : Mch) (hok : Fun.ok f) : ACallIs B.P 4 [f.av, m.av] (.bool true) := by
 by_cases h0 : flwF f m = 0
 ·obtain ⟨d, h⟩ := trOk_of h0
  have hC := chkd_of0 h0
  have hb := hC.e.siz.blocks
  have hv := hC.e.siz.values
  have hbl : f.Blocks.length ≤ maxLen := by unfold maxLen; omega
  have hl : ∀ (A : Knw) b, b < f.Blocks.length → (lstS (A b) f.Values.length).length ≤ maxLen := fun A b _ => by
   have := lstS_len (S := A b) f.Values.length
   unfold maxLen; omega
  have hs := c_sameRows f.Blocks.length (fun b => lstS (nedA f b) f.Values.length) hbl (hl (nedA f))
  have ht := c_sameRows f.Blocks.length (fun b => lstS (behA f b) f.Values.length) hbl (hl (behA f))
  refine ACallIs.enter B _ _ Try.func4 rfl rfl Try.ntmps4 Try.results4 rfl fun hreal => ?_
  clear hreal
  repeat (first|apply zq|apply zb|apply zk)
  apply zr
  intro _
  refine AWp.freezeObj 2 rfl rfl ?_
  refine AWp.freezeObj 3 rfl rfl ?_
  repeat (first|apply zq|apply zb|apply zk)
  apply zr
  refine CallX.pure (c_Sets f m hok h hC h0) rfl rfl rfl ?_
  intro _
  refine AWp.freezeObj 5 rfl rfl ?_
  repeat (first|apply zq|apply zb|apply zk)
  apply zr
  refine CallX.pure (c_SetsOf f m hok hC h0) rfl rfl rfl ?_
  intro _
  refine AWp.freezeObj 7 rfl rfl ?_
  repeat (first|apply zq|apply zb|apply zk)
  apply zr
  repeat' (first|refine And.intro ?_ ?_|refine CallK.intro (fun _ => hs) ?_|refine CallK.intro (fun _ => ht) ?_)
  all_goals first|exact fun h => h|exact gT|exact gF|skip
  intro _
  refine AWp.ret ⟨Or.inl rfl, rfl, ?_⟩
  intro _
  rfl
 ·have hs := c_sameRowsNil
  refine ACallIs.enter B _ _ Try.func4 rfl rfl Try.ntmps4 Try.results4 rfl fun hreal => ?_
  clear hreal
  repeat (first|apply zq|apply zb|apply zk)
  apply zr
  intro _
  refine AWp.freezeObj 2 rfl rfl ?_
  refine AWp.freezeObj 3 rfl rfl ?_
  repeat (first|apply zq|apply zb|apply zk)
  apply zr
  refine CallX.pure (c_SetsNo f m hok h0) rfl rfl rfl ?_
  intro _
  refine AWp.freezeObj 5 rfl rfl ?_
  repeat (first|apply zq|apply zb|apply zk)
  apply zr
  refine CallX.pure (c_SetsOfNo f m hok h0) rfl rfl rfl ?_
  intro _
  refine AWp.freezeObj 7 rfl rfl ?_
  repeat (first|apply zq|apply zb|apply zk)
  apply zr
  repeat' (first|refine And.intro ?_ ?_|refine CallK.intro (fun _ => hs) ?_)
  all_goals first|exact fun h => h|exact gT|exact gF|skip
  intro _
  refine AWp.ret ⟨Or.inl rfl, rfl, ?_⟩
  intro _
  refine tupB (show (bif (bif flwF f m == flwF f m then true else false) then true else false) = true from ?_)
  simp
set_option maxRecDepth 100000 in
theorem calls {H : Type} {enc : TypeId × Value → H} (w : World) {d0 d1 : DataW H}
  (hw : (DataW.weightsEach Try.prog [41, 24] [d0, d1]).all (· ≤ reachBytes) = true)
  (v0 : Value) {r0 : Reach} {b0 : Nat} {p0 : List MemPlace} {s0 : Nat → Bool} {e0 : Bool} (ok0 : Value.okWide Try.prog w r0 b0 41 v0) (h0 : DataW.Trod enc Try.prog w 0 s0 e0 41 v0 d0 p0)
  (v1 : Value) {r1 : Reach} {b1 : Nat} {p1 : List MemPlace} {s1 : Nat → Bool} {e1 : Bool} (ok1 : Value.okWide Try.prog w r1 b1 24 v1) (h1 : DataW.Trod enc Try.prog w 0 s1 e1 24 v1 d1 p1)
  : Calls Try.prog 4 #[v0, v1] w fun e w' => e = .returned (.bool true) ∧ Below w.heap.size w w' := by
 obtain ⟨_, ⟨f, rfl, fk⟩, m0⟩ := open_value o_fun hw 0 rfl rfl h0
 obtain ⟨c0, q0, _⟩ := okWide_struct Try.underlying41 ok0
 obtain ⟨_, ⟨m, rfl, mk⟩, m1⟩ := open_value o_mch hw 1 rfl rfl h1
 obtain ⟨c1, q1, _⟩ := okWide_struct Try.underlying24 ok1
 exact law_calls (c_l_LiveSets f m fk) w [v0, v1] rfl fun j y hy => by
  match j, hy with
  | 0, hy => simp at hy; subst hy; exact rep_agg_of q0 m0
  | 1, hy => simp at hy; subst hy; exact rep_agg_of q1 m1
set_option maxRecDepth 100000 in
theorem lifted (os : Os) (started : os.Started) (H : Type) (enc : TypeId × Value → H) :
  ReturnsInHanded {} Try.checked os 4 .any (Rows.liveSetsSpec.pre6 enc Try.prog Try.f4 Rows.liveSetsRow.domain false) (Rows.liveSetsSpec.post enc Try.prog Try.f4 false true false false) := by
 refine returnsInHanded_of_change_sized (C := Try.checked) own started (by kernel_rfl) Try.func4
  (ChangeSpec.witness6 (enc := enc) (C := Try.checked) false ⟨#[], #[.agg #[.slice none 0 0, .slice none 0 0], .agg #[.int .i64 0, .int .i64 0]], []⟩ 8 (by kernel_rfl) (by kernel_rfl) (by kernel_rfl) (by kernel_rfl)) ?_
 intro W base args ds gs before hval0 hW hcnd hwt hsz0
 have hval : ∀ (j : Nat) t v, Try.f4.params[j]? = some t → args[j]? = some v → Value.okWide Try.prog W .any base t v := hval0
 have hW' := hW
 obtain ⟨p, q, hA0, hV, rfl, hfz, hnd⟩ := hW
 have hA : DataW.TrodAll enc Try.prog W 0 (fun _ => true) true Try.f4.params.toList args.toList ds p := hA0
 rw [Try.params4] at hA hval
 obtain ⟨v0, vs0, d0, ds0, p0, q0, hargs, rfl, rfl, h0, r0⟩ := trodAll_cons hA
 obtain ⟨v1, vs1, d1, ds1, p1, q1, rfl, rfl, rfl, h1, r1⟩ := trodAll_cons r0
 obtain ⟨rfl, rfl, rfl⟩ := trodAll_nil r1
 obtain rfl : args = #[v0, v1] := by cases args; simp_all
 obtain ⟨rfl, rfl⟩ := trodVars_none hV
 have lt0 : ∀ x ∈ p0, x.block < W.heap.size := by obtain ⟨m, hm⟩ := h0; exact DataW.trod_lt m _ _ _ hm
 have ok0 := hval 0 41 v0 rfl rfl
 have lt1 : ∀ x ∈ p1, x.block < W.heap.size := by obtain ⟨m, hm⟩ := h1; exact DataW.trod_lt m _ _ _ hm
 have ok1 := hval 1 24 v1 rfl rfl
 clear hA0 hval0
 have hw2 : (DataW.weightsEach Try.prog [41, 24] [d0, d1]).all (· ≤ reachBytes) = true := by
  have h := hwt
  rw [Try.params4] at h
  exact h
 refine (calls W hw2 _ ok0 h0 _ ok1 h1).mono fun e W' ⟨he, bel⟩ => ?_
 subst he
 exact ⟨_, rfl, _, _, _, [], _, [], hW', trodAll_mk1 (shut_bool Try.underlying4 _), (trodAll_cons_mk (Below.trod laidOut (by kernel_rfl) (of_decide_eq_true (by kernel_rfl)) h0 bel lt0) (trodAll_cons_mk (Below.trod laidOut (by kernel_rfl) (of_decide_eq_true (by kernel_rfl)) h1 bel lt1) trodAll_mk0)), rfl, bel.frame _, fun h => by cases h⟩
theorem over : Rows.liveSetsRow.holds Try.pinned (OpenSpec.ofChange Rows.liveSetsSpec) :=
 OpenClaim.holds_of_wide 4 Try.f4 rfl rfl rfl rfl rfl rfl rfl ⟨rfl, rfl, rfl, rfl, rfl⟩ rfl rfl rfl rfl rfl (by kernel_rfl) Try.func4 (by kernel_rfl)
  (of_decide_eq_true (by kernel_rfl)) (by unfold Func.isWrapper; first|(rw [if_pos (by decide +kernel)]; kernel_rfl)|(rw [if_neg (by decide +kernel)]; exact ⟨rfl, rfl⟩))
  (fun os started H enc _ => lifted os started H enc)
theorem proved : Rows.LiveSetsSaid := over
#print axioms proved
end Go.Proofs.Ytjjgjflbhpoloaa.liveSets
