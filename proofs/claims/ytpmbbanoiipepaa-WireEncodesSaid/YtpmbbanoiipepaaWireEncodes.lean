/- The law WireEncodes returns true at every script: wire.Encode answers as the document's ScriptBytes. No condition. -/
import Derived.Test.YtpmbbanoiipepaaEnc
import Derived.Test.YtpmbbanoiipepaaRows
import Derived.WalkKit
import Derived.ProofKit
import Derived.OpenShut
import Derived.ChangeOld
import Derived.Below
import Derived.SizedLaws
set_option linter.unusedVariables false
namespace Go.Proofs.Ytpmbbanoiipepaa.wireEncodes
open Go Go.Abs Go.RowKit Go.ChangeShapes Go.WideShapes Go.ChangeAt

theorem c_l_WireEncodes (s : Scr) (hok : Scr.ok s) : ACallIs B.P 4 [s.av] (.bool true) := by
  by_cases h0 : scrF s = 0
  · obtain ⟨hz, _⟩ := ok_junk h0
    refine ACallIs.enter B _ _ Try.func4 rfl rfl Try.ntmps4 Try.results4 rfl fun hreal => ?_
    clear hreal
    repeat (first | refine AWp.seq ?_ | refine AWp.block ?_ | refine AWp.skip ?_)
    refine AWp.region ?_
    intro _
    refine AWp.freezeObj 1 rfl rfl ?_
    repeat (first | refine AWp.seq ?_ | refine AWp.block ?_ | refine AWp.skip ?_)
    refine AWp.region ?_
    refine CallX.pure (c_Encode s hok h0 hz) rfl rfl rfl ?_
    intro _
    repeat (first | refine AWp.seq ?_ | refine AWp.block ?_ | refine AWp.skip ?_)
    refine AWp.region ?_
    refine CallX.pure (c_ScriptBytes s hok h0) rfl rfl rfl ?_
    intro _
    repeat (first | refine AWp.seq ?_ | refine AWp.block ?_ | refine AWp.skip ?_)
    refine AWp.region ?_
    repeat' (first | refine And.intro ?_ ?_ | refine Exists.intro (fun i => (scrB s).getD i default) (And.intro (fun _ i hi => rfl) ?_))
    all_goals first | exact fun h => h | exact gT | exact gF | skip
    intro _
    refine AWp.ret ⟨Or.inl rfl, rfl, ?_⟩
    intro _
    refine tupB (show (bif ((0 : Int) == 0) then ((bytesOf ((List.range (scrB s).length).map fun i => (scrB s).getD i default)).toList == (bytesOf ((List.range (scrB s).length).map fun i => (scrB s).getD i default)).toList) else false) = true from ?_)
    simp
  · refine ACallIs.enter B _ _ Try.func4 rfl rfl Try.ntmps4 Try.results4 rfl fun hreal => ?_
    clear hreal
    repeat (first | refine AWp.seq ?_ | refine AWp.block ?_ | refine AWp.skip ?_)
    refine AWp.region ?_
    intro _
    refine AWp.freezeObj 1 rfl rfl ?_
    repeat (first | refine AWp.seq ?_ | refine AWp.block ?_ | refine AWp.skip ?_)
    refine AWp.region ?_
    refine CallX.pure (c_EncodeNo s hok h0) rfl rfl rfl ?_
    intro _
    repeat (first | refine AWp.seq ?_ | refine AWp.block ?_ | refine AWp.skip ?_)
    refine AWp.region ?_
    refine CallX.pure (c_ScriptBytesNo s hok h0) rfl rfl rfl ?_
    intro _
    repeat (first | refine AWp.seq ?_ | refine AWp.block ?_ | refine AWp.skip ?_)
    refine AWp.region ?_
    repeat' refine And.intro ?_ ?_
    all_goals first | exact fun h => h | exact gT | exact gF | skip
    intro _
    refine AWp.ret ⟨Or.inl rfl, rfl, ?_⟩
    intro _
    refine tupB (show (bif (scrF s == scrF s) then ((ByteArray.empty).toList == (ByteArray.empty).toList) else false) = true from ?_)
    simp
set_option maxRecDepth 100000 in
theorem calls {H : Type} {enc : TypeId × Value → H} (w : World) {d0 : DataW H}
    (hw : (DataW.weightsEach Try.prog [43] [d0]).all (· ≤ reachBytes) = true)
    (v0 : Value) {r0 : Reach} {b0 : Nat} {p0 : List MemPlace} {s0 : Nat → Bool} {e0 : Bool} (ok0 : Value.okWide Try.prog w r0 b0 43 v0) (h0 : DataW.Trod enc Try.prog w 0 s0 e0 43 v0 d0 p0)
    : Calls Try.prog 4 #[v0] w fun e w' => e = .returned (.bool true) ∧ Below w.heap.size w w' := by
  obtain ⟨_, ⟨s, rfl, sk⟩, m0⟩ := open_value o_scr hw 0 rfl rfl h0
  obtain ⟨c0, q0, _⟩ := okWide_struct Try.underlying43 ok0
  exact law_calls (c_l_WireEncodes s sk) w [v0] rfl fun j y hy => by
    match j, hy with
    | 0, hy => simp at hy; subst hy; exact rep_agg_of q0 m0

set_option maxRecDepth 100000 in
theorem lifted (os : Os) (started : os.Started) (H : Type) (enc : TypeId × Value → H) :
    ReturnsInHanded {} Try.checked os 4 .any (Rows.wireEncodesSpec.pre6 enc Try.prog Try.f4 Rows.wireEncodesRow.domain false) (Rows.wireEncodesSpec.post enc Try.prog Try.f4 false true false false) := by
  refine returnsInHanded_of_change_sized (C := Try.checked) own started (by kernel_rfl) Try.func4
    (ChangeSpec.witness6 (enc := enc) (C := Try.checked) false ⟨#[], #[.agg #[.int .i64 0, .int .i64 0, .slice none 0 0, .slice none 0 0, .int .i64 0, .int .i64 0, .slice none 0 0]], []⟩ 8 (by kernel_rfl) (by kernel_rfl) (by kernel_rfl) (by kernel_rfl)) ?_
  intro W base args ds gs before hval0 hW hcnd hwt hsz0
  have hval : ∀ (j : Nat) t v, Try.f4.params[j]? = some t → args[j]? = some v → Value.okWide Try.prog W .any base t v := hval0
  have hW' := hW
  obtain ⟨p, q, hA0, hV, rfl, hfz, hnd⟩ := hW
  have hA : DataW.TrodAll enc Try.prog W 0 (fun _ => true) true Try.f4.params.toList args.toList ds p := hA0
  rw [Try.params4] at hA hval
  obtain ⟨v0, vs0, d0, ds0, p0, q0, hargs, rfl, rfl, h0, r0⟩ := trodAll_cons hA
  obtain ⟨rfl, rfl, rfl⟩ := trodAll_nil r0
  obtain rfl : args = #[v0] := by cases args; simp_all
  obtain ⟨rfl, rfl⟩ := trodVars_none hV
  have lt0 : ∀ x ∈ p0, x.block < W.heap.size := by obtain ⟨m, hm⟩ := h0; exact DataW.trod_lt m _ _ _ hm
  have ok0 := hval 0 43 v0 rfl rfl
  clear hA0 hval0
  have hw2 : (DataW.weightsEach Try.prog [43] [d0]).all (· ≤ reachBytes) = true := by
    have h := hwt
    rw [Try.params4] at h
    exact h
  refine (calls W hw2 _ ok0 h0).mono fun e W' ⟨he, bel⟩ => ?_
  subst he
  exact ⟨_, rfl, _, _, _, [], _, [], hW', trodAll_mk1 (shut_bool Try.underlying4 _), (trodAll_cons_mk (Below.trod laidOut (by kernel_rfl) (of_decide_eq_true (by kernel_rfl)) h0 bel lt0) trodAll_mk0), rfl, bel.frame _, fun h => by cases h⟩

theorem over : Rows.wireEncodesRow.holds Try.pinned (OpenSpec.ofChange Rows.wireEncodesSpec) :=
  OpenClaim.holds_of_wide 4 Try.f4 rfl rfl rfl rfl rfl rfl rfl ⟨rfl, rfl, rfl, rfl, rfl⟩ rfl rfl rfl rfl rfl (by kernel_rfl) Try.func4 (by kernel_rfl)
    (of_decide_eq_true (by kernel_rfl)) (by unfold Func.isWrapper; first | (rw [if_pos (by decide +kernel)]; kernel_rfl) | (rw [if_neg (by decide +kernel)]; exact ⟨rfl, rfl⟩))
    (fun os started H enc _ => lifted os started H enc)

theorem proved : Rows.WireEncodesSaid := over
#print axioms proved

end Go.Proofs.Ytpmbbanoiipepaa.wireEncodes
