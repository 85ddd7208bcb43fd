/- The law WireChecks returns true at every script: wire.Check answers as the document's ScriptFault. No condition. -/
import Derived.Test.YtdilfbdfefppbaaWir
import Derived.Test.YtdilfbdfefppbaaRows
import Derived.WalkKit
import Derived.ProofKit
import Derived.OpenShut
import Derived.ChangeOld
import Derived.Below
import Derived.SizedLaws
set_option linter.unusedVariables false
namespace Go.Proofs.Ytdilfbdfefppbaa.wireChecks
open Go Go.Abs Go.RowKit Go.ChangeShapes Go.WideShapes Go.ChangeAt

theorem c_l_WireChecks (s : Scr) (hok : Scr.ok s) : ACallIs B.P 13 [s.av] (.bool true) := by
  refine ACallIs.enter B _ _ Try.func13 rfl rfl Try.ntmps13 Try.results13 rfl fun hreal => ?_
  clear hreal
  repeat' (first
    | refine AWp.seq ?_ | refine AWp.block ?_ | refine AWp.skip ?_ | refine AWp.exit ?_
    | refine AWp.region ?_ | refine AWp.draw mixed (by kernel_rfl) ?_
    | refine AWp.cond (And.intro (fun h => ?_) (fun h => ?_))
    | refine AWp.ret ⟨Or.inl rfl, rfl, ?_⟩
    | refine CallX.pure (c_WireCheck s hok) rfl rfl rfl ?_ | refine CallK.intro (fun _ => c_WireCheck s hok) ?_
    | refine CallX.pure (c_ScriptFault s hok) rfl rfl rfl ?_ | refine CallK.intro (fun _ => c_ScriptFault s hok) ?_
    | exact trivial | refine And.intro ?_ ?_ | intro _)
  all_goals first | assumption | exact tupB (by simp) | skip
set_option maxRecDepth 100000 in
theorem calls {H : Type} {enc : TypeId × Value → H} (w : World) {d0 : DataW H}
    (hw : (DataW.weightsEach Try.prog [69] [d0]).all (· ≤ reachBytes) = true)
    (v0 : Value) {r0 : Reach} {b0 : Nat} {p0 : List MemPlace} {s0 : Nat → Bool} {e0 : Bool} (ok0 : Value.okWide Try.prog w r0 b0 69 v0) (h0 : DataW.Trod enc Try.prog w 0 s0 e0 69 v0 d0 p0)
    : Calls Try.prog 13 #[v0] w fun e w' => e = .returned (.bool true) ∧ Below w.heap.size w w' := by
  obtain ⟨_, ⟨s, rfl, sk⟩, m0⟩ := open_value o_scr hw 0 rfl rfl h0
  obtain ⟨c0, q0, _⟩ := okWide_struct Try.underlying69 ok0
  exact law_calls (c_l_WireChecks s sk) w [v0] rfl fun j y hy => by
    match j, hy with
    | 0, hy => simp at hy; subst hy; exact rep_agg_of q0 m0

set_option maxRecDepth 100000 in
theorem lifted (os : Os) (started : os.Started) (H : Type) (enc : TypeId × Value → H) :
    ReturnsInHanded {} Try.checked os 13 .any (Rows.wireChecksSpec.pre6 enc Try.prog Try.f13 Rows.wireChecksRow.domain false) (Rows.wireChecksSpec.post enc Try.prog Try.f13 false true false false) := by
  refine returnsInHanded_of_change_sized (C := Try.checked) own started (by kernel_rfl) Try.func13
    (ChangeSpec.witness6 (enc := enc) (C := Try.checked) false ⟨#[], #[.agg #[.int .i64 0, .int .i64 0, .slice none 0 0, .slice none 0 0, .int .i64 0, .int .i64 0, .slice none 0 0]], []⟩ 8 (by kernel_rfl) (by kernel_rfl) (by kernel_rfl) (by kernel_rfl)) ?_
  intro W base args ds gs before hval0 hW hcnd hwt hsz0
  have hval : ∀ (j : Nat) t v, Try.f13.params[j]? = some t → args[j]? = some v → Value.okWide Try.prog W .any base t v := hval0
  have hW' := hW
  obtain ⟨p, q, hA0, hV, rfl, hfz, hnd⟩ := hW
  have hA : DataW.TrodAll enc Try.prog W 0 (fun _ => true) true Try.f13.params.toList args.toList ds p := hA0
  rw [Try.params13] at hA hval
  obtain ⟨v0, vs0, d0, ds0, p0, q0, hargs, rfl, rfl, h0, r0⟩ := trodAll_cons hA
  obtain ⟨rfl, rfl, rfl⟩ := trodAll_nil r0
  obtain rfl : args = #[v0] := by cases args; simp_all
  obtain ⟨rfl, rfl⟩ := trodVars_none hV
  have lt0 : ∀ x ∈ p0, x.block < W.heap.size := by obtain ⟨m, hm⟩ := h0; exact DataW.trod_lt m _ _ _ hm
  have ok0 := hval 0 69 v0 rfl rfl
  clear hA0 hval0
  have hw2 : (DataW.weightsEach Try.prog [69] [d0]).all (· ≤ reachBytes) = true := by
    have h := hwt
    rw [Try.params13] at h
    exact h
  refine (calls W hw2 _ ok0 h0).mono fun e W' ⟨he, bel⟩ => ?_
  subst he
  exact ⟨_, rfl, _, _, _, [], _, [], hW', trodAll_mk1 (shut_bool Try.underlying4 _), (trodAll_cons_mk (Below.trod laidOut (by kernel_rfl) (of_decide_eq_true (by kernel_rfl)) h0 bel lt0) trodAll_mk0), rfl, bel.frame _, fun h => by cases h⟩

theorem over : Rows.wireChecksRow.holds Try.pinned (OpenSpec.ofChange Rows.wireChecksSpec) :=
  OpenClaim.holds_of_wide 13 Try.f13 rfl rfl rfl rfl rfl rfl rfl ⟨rfl, rfl, rfl, rfl, rfl⟩ rfl rfl rfl rfl rfl (by kernel_rfl) Try.func13 (by kernel_rfl)
    (of_decide_eq_true (by kernel_rfl)) (by unfold Func.isWrapper; first | (rw [if_pos (by decide +kernel)]; kernel_rfl) | (rw [if_neg (by decide +kernel)]; exact ⟨rfl, rfl⟩))
    (fun os started H enc _ => lifted os started H enc)

theorem proved : Rows.WireChecksSaid := over
#print axioms proved

end Go.Proofs.Ytdilfbdfefppbaa.wireChecks
