/- The law WireDecodes returns true at every list of bytes: wire.Decode answers as the document's ScriptOf. No condition. -/
import Derived.Test.YtnbgpgbbfjaomaaDec
import Derived.Test.YtnbgpgbbfjaomaaRows
import Derived.WalkKit
import Derived.ProofKit
import Derived.OpenShut
import Derived.ChangeOld
import Derived.Below
import Derived.SizedLaws
set_option linter.unusedVariables false
namespace Go.Proofs.Ytnbgpgbbfjaomaa.wireDecodes
open Go Go.Abs Go.RowKit Go.ChangeShapes Go.WideShapes Go.ChangeAt

theorem law_zero (L : List Int) (hL : L.length * 1 ≤ 140737488351232) (e : Int) (h1 : ACallIs B.P 7 [bytesV L] (.tup [zeroS, .i64 e])) (h2 : ACallIs B.P 9 [bytesV L] (.tup [zeroS, .i64 e])) : ACallIs B.P 3 [bytesV L] (.bool true) := by
  refine ACallIs.enter B _ _ Try.func3 rfl rfl Try.ntmps3 Try.results3 rfl fun hreal => ?_
  clear hreal
  repeat (first | refine AWp.seq ?_ | refine AWp.block ?_ | refine AWp.skip ?_)
  refine AWp.region ?_
  intro _
  repeat (first | refine AWp.seq ?_ | refine AWp.block ?_ | refine AWp.skip ?_)
  refine AWp.region ?_
  refine CallX.pure (c_octets L hL) rfl rfl rfl ?_
  refine CallX.pure h1 rfl rfl rfl ?_
  intro _
  refine AWp.freezeObj 3 rfl rfl ?_
  repeat (first | refine AWp.seq ?_ | refine AWp.block ?_ | refine AWp.skip ?_)
  refine AWp.region ?_
  refine CallX.pure h2 rfl rfl rfl ?_
  intro _
  refine AWp.freezeObj 5 rfl rfl ?_
  repeat (first | refine AWp.seq ?_ | refine AWp.block ?_ | refine AWp.skip ?_)
  refine AWp.region ?_
  repeat' (first | refine And.intro ?_ ?_ | refine CallK.intro (fun _ => c_sameScript0) ?_)
  all_goals first | exact fun h => h | exact gT | exact gF | skip
  intro _
  refine AWp.ret ⟨Or.inl rfl, rfl, ?_⟩
  intro _
  refine tupB (show (bif (e == e) then true else false) = true from ?_)
  simp
theorem law_scr (L : List Int) (hL : L.length * 1 ≤ 140737488351232) (s : Scr) (hs : Scr.ok s) (h1 : ACallIs B.P 7 [bytesV L] (.tup [s.av, .i64 0])) (h2 : ACallIs B.P 9 [bytesV L] (.tup [s.av, .i64 0])) : ACallIs B.P 3 [bytesV L] (.bool true) := by
  have h3 := c_sameScript s hs
  refine ACallIs.enter B _ _ Try.func3 rfl rfl Try.ntmps3 Try.results3 rfl fun hreal => ?_
  clear hreal
  repeat (first | refine AWp.seq ?_ | refine AWp.block ?_ | refine AWp.skip ?_)
  refine AWp.region ?_
  intro _
  repeat (first | refine AWp.seq ?_ | refine AWp.block ?_ | refine AWp.skip ?_)
  refine AWp.region ?_
  refine CallX.pure (c_octets L hL) rfl rfl rfl ?_
  refine CallX.pure h1 rfl rfl rfl ?_
  intro _
  refine AWp.freezeObj 3 rfl rfl ?_
  repeat (first | refine AWp.seq ?_ | refine AWp.block ?_ | refine AWp.skip ?_)
  refine AWp.region ?_
  refine CallX.pure h2 rfl rfl rfl ?_
  intro _
  refine AWp.freezeObj 5 rfl rfl ?_
  repeat (first | refine AWp.seq ?_ | refine AWp.block ?_ | refine AWp.skip ?_)
  refine AWp.region ?_
  repeat' (first | refine And.intro ?_ ?_ | refine CallK.intro (fun _ => h3) ?_)
  all_goals first | exact fun h => h | exact gT | exact gF | skip
  intro _
  refine AWp.ret ⟨Or.inl rfl, rfl, ?_⟩
  intro _
  rfl
theorem c_l_WireDecodes (L : List Int) (hL : LOk 1 (fun n => 0 ≤ n ∧ n ≤ 255) L) : ACallIs B.P 3 [bytesV L] (.bool true) := by
  by_cases hl : 20000 < L.length
  · exact law_zero L hL.1 1 (c_DecodeLong L hl) (c_ScriptOfLong L hl)
  have hB : OkB L := ⟨by omega, fun i hi => hL.2 _ (getD_mem hi)⟩
  have hok := sc_ok hB
  have hal := sc_alike L
  have hl' : L.length ≤ 20000 := by omega
  cases hsh : (scF2 L (insM L)).2.sh with
  | true =>
    have hsh' : (scF2 L (insR L)).2.sh = true := by rw [← hal.1]; exact hsh
    refine law_zero L hL.1 5 (c_Decode hB hl' hok _ (fun _ => rfl) (fun h => ?_) (fun h => ?_) (fun h => ?_)) (c_ScriptOf hB hl' hok _ (fun _ => rfl) (fun h => ?_) (fun h => ?_) (fun h => ?_))
    · rw [hsh] at h; cases h
    · rw [hsh] at h; cases h
    · rw [hsh] at h; cases h
    · rw [hsh'] at h; cases h
    · rw [hsh'] at h; cases h
    · rw [hsh'] at h; cases h
  | false =>
    have hsh' : (scF2 L (insR L)).2.sh = false := by rw [← hal.1]; exact hsh
    have he := hal.2 hsh
    by_cases hp : (scF2 L (insM L)).2.p < L.length
    · have hp' : (scF2 L (insR L)).2.p < L.length := by rw [← hal.1]; exact hp
      refine law_zero L hL.1 4 (c_Decode hB hl' hok _ (fun h => ?_) (fun _ _ => rfl) (fun _ h => absurd hp h) (fun _ h => absurd hp h)) (c_ScriptOf hB hl' hok _ (fun h => ?_) (fun _ _ => rfl) (fun _ h => absurd hp' h) (fun _ h => absurd hp' h))
      · rw [hsh] at h; cases h
      · rw [hsh'] at h; cases h
    · have hp' : ¬ (scF2 L (insR L)).2.p < L.length := by rw [← hal.1]; exact hp
      by_cases h0 : scrF (scF2 L (insR L)).1 = 0
      · have h0' : scrF (scF2 L (insM L)).1 = 0 := by rw [he]; exact h0
        refine law_scr L hL.1 (scF2 L (insR L)).1 hok (c_Decode hB hl' hok _ (fun h => ?_) (fun _ h => absurd h hp) (fun _ _ h => absurd h0' h) (fun _ _ _ => by rw [he])) (c_ScriptOf hB hl' hok _ (fun h => ?_) (fun _ h => absurd h hp') (fun _ _ h => absurd h0 h) (fun _ _ _ => rfl))
        · rw [hsh] at h; cases h
        · rw [hsh'] at h; cases h
      · have h0' : ¬ scrF (scF2 L (insM L)).1 = 0 := by rw [he]; exact h0
        refine law_zero L hL.1 (scrF (scF2 L (insR L)).1) (c_Decode hB hl' hok _ (fun h => ?_) (fun _ h => absurd h hp) (fun _ _ _ => by rw [he]) (fun _ _ h => absurd h h0')) (c_ScriptOf hB hl' hok _ (fun h => ?_) (fun _ h => absurd h hp') (fun _ _ _ => rfl) (fun _ _ h => absurd h h0))
        · rw [hsh] at h; cases h
        · rw [hsh'] at h; cases h
set_option maxRecDepth 100000 in
theorem calls {H : Type} {enc : TypeId × Value → H} (w : World) {d0 : DataW H}
    (hw : (DataW.weightsEach Try.prog [22] [d0]).all (· ≤ reachBytes) = true)
    (v0 : Value) {r0 : Reach} {b0 : Nat} {p0 : List MemPlace} {s0 : Nat → Bool} {e0 : Bool} (ok0 : Value.okWide Try.prog w r0 b0 22 v0) (h0 : DataW.Trod enc Try.prog w 0 s0 e0 22 v0 d0 p0)
    : Calls Try.prog 3 #[v0] w fun e w' => e = .returned (.bool true) ∧ Below w.heap.size w w' := by
  obtain ⟨_, ⟨l, rfl, lk⟩, m0⟩ := open_value o_bytes hw 0 rfl rfl h0
  exact law_calls (c_l_WireDecodes l lk) w [v0] rfl fun j y hy => by
    match j, hy with
    | 0, hy => simp at hy; subst hy; exact rep_one_of (one_slice Try.underlying22 ok0) m0

set_option maxRecDepth 100000 in
theorem lifted (os : Os) (started : os.Started) (H : Type) (enc : TypeId × Value → H) :
    ReturnsInHanded {} Try.checked os 3 .any (Rows.wireDecodesSpec.pre6 enc Try.prog Try.f3 Rows.wireDecodesRow.domain false) (Rows.wireDecodesSpec.post enc Try.prog Try.f3 false true false false) := by
  refine returnsInHanded_of_change_sized (C := Try.checked) own started (by kernel_rfl) Try.func3
    (ChangeSpec.witness6 (enc := enc) (C := Try.checked) false ⟨#[], #[.slice none 0 0], []⟩ 8 (by kernel_rfl) (by kernel_rfl) (by kernel_rfl) (by kernel_rfl)) ?_
  intro W base args ds gs before hval0 hW hcnd hwt hsz0
  have hval : ∀ (j : Nat) t v, Try.f3.params[j]? = some t → args[j]? = some v → Value.okWide Try.prog W .any base t v := hval0
  have hW' := hW
  obtain ⟨p, q, hA0, hV, rfl, hfz, hnd⟩ := hW
  have hA : DataW.TrodAll enc Try.prog W 0 (fun _ => true) true Try.f3.params.toList args.toList ds p := hA0
  rw [Try.params3] at hA hval
  obtain ⟨v0, vs0, d0, ds0, p0, q0, hargs, rfl, rfl, h0, r0⟩ := trodAll_cons hA
  obtain ⟨rfl, rfl, rfl⟩ := trodAll_nil r0
  obtain rfl : args = #[v0] := by cases args; simp_all
  obtain ⟨rfl, rfl⟩ := trodVars_none hV
  have lt0 : ∀ x ∈ p0, x.block < W.heap.size := by obtain ⟨m, hm⟩ := h0; exact DataW.trod_lt m _ _ _ hm
  have ok0 := hval 0 22 v0 rfl rfl
  clear hA0 hval0
  have hw2 : (DataW.weightsEach Try.prog [22] [d0]).all (· ≤ reachBytes) = true := by
    have h := hwt
    rw [Try.params3] at h
    exact h
  refine (calls W hw2 _ ok0 h0).mono fun e W' ⟨he, bel⟩ => ?_
  subst he
  exact ⟨_, rfl, _, _, _, [], _, [], hW', trodAll_mk1 (shut_bool Try.underlying4 _), (trodAll_cons_mk (Below.trod laidOut (by kernel_rfl) (of_decide_eq_true (by kernel_rfl)) h0 bel lt0) trodAll_mk0), rfl, bel.frame _, fun h => by cases h⟩

theorem over : Rows.wireDecodesRow.holds Try.pinned (OpenSpec.ofChange Rows.wireDecodesSpec) :=
  OpenClaim.holds_of_wide 3 Try.f3 rfl rfl rfl rfl rfl rfl rfl ⟨rfl, rfl, rfl, rfl, rfl⟩ rfl rfl rfl rfl rfl (by kernel_rfl) Try.func3 (by kernel_rfl)
    (of_decide_eq_true (by kernel_rfl)) (by unfold Func.isWrapper; first | (rw [if_pos (by decide +kernel)]; kernel_rfl) | (rw [if_neg (by decide +kernel)]; exact ⟨rfl, rfl⟩))
    (fun os started H enc _ => lifted os started H enc)

theorem proved : Rows.WireDecodesSaid := over
#print axioms proved

end Go.Proofs.Ytnbgpgbbfjaomaa.wireDecodes
