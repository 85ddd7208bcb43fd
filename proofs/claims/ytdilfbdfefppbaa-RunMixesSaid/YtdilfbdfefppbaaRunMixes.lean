/- The law RunMixes returns true at every slice of numbers: run.Mix answers as the document's Mixed and leaves the slice as it was. No condition. -/
import Derived.Test.YtdilfbdfefppbaaLowC
import Derived.Test.YtdilfbdfefppbaaSized
import Derived.Test.YtdilfbdfefppbaaRows
import Derived.WalkKit
import Derived.ProofKit
import Derived.OpenShut
import Derived.ChangeOld
import Derived.Below
set_option linter.unusedVariables false
namespace Go.Proofs.Ytdilfbdfefppbaa.runMixes
open Go Go.Abs Go.RowKit Go.ChangeShapes Go.WideShapes Go.ChangeAt

theorem c_l (l : List Int) (hl : l.length * 8 ≤ 140737488355328) : ACallIs B.P 5 [ints l] (.bool true) := by
  refine ACallIs.enter B _ _ Try.func5 rfl rfl Try.ntmps5 Try.results5 (by simp) fun hreal => ?_
  repeat' (first
    | refine AWp.seq ?_ | refine AWp.block ?_ | refine AWp.skip ?_ | refine AWp.exit ?_
    | refine AWp.region ?_ | refine AWp.draw mixed (by kernel_rfl) ?_
    | refine AWp.cond (And.intro (fun h => ?_) (fun h => ?_))
    | refine AWp.ret ⟨Or.inl rfl, rfl, ?_⟩
    | refine CallK.intro (fun _ => c_ints l hl) ?_
    | refine CallK.intro (fun _ => c_Mix l) ?_
    | refine CallK.intro (fun _ => c_Mixed l) ?_
    | refine CallK.intro (fun _ => c_sameInts l l) ?_
    | refine And.intro ?_ ?_ | intro _)
  all_goals first | assumption | (exfalso; simp_all; done) | (simp_all [tupOf]; done) | skip

set_option maxRecDepth 100000 in
theorem calls {H : Type} {enc : TypeId × Value → H} (w : World) {d0 : DataW H}
    (hw : (DataW.weightsEach Try.prog [24] [d0]).all (· ≤ reachBytes) = true) (v0 : Value) {r : Reach} {b0 : Nat} {p0 : List MemPlace} {spare : Nat → Bool} {held : Bool} (ok0 : Value.okWide Try.prog w r b0 24 v0) (h0 : DataW.Trod enc Try.prog w 0 spare held 24 v0 d0 p0) :
    Calls Try.prog 5 #[v0] w fun e w' => e = .returned (.bool true) ∧ Below w.heap.size w w' := by
  obtain ⟨_, ⟨l, rfl, _⟩, hm⟩ := open_value o_ints h0
  have hl := row_size Try.underlying24 (by kernel_rfl : Try.prog.bytesOf 3 = 8) h0 hm hw 0 rfl rfl
  exact law_calls (c_l l hl) w [v0] rfl fun j x hx => by
    match j, hx with
    | 0, hx => simp at hx; subst hx; exact rep_one_of (one_slice Try.underlying24 ok0) hm

set_option maxRecDepth 100000 in
theorem lifted (os : Os) (started : os.Started) (H : Type) (enc : TypeId × Value → H) :
    ReturnsInHanded {} Try.checked os 5 .any (Rows.runMixesSpec.pre6 enc Try.prog Try.f5 Rows.runMixesRow.domain false) (Rows.runMixesSpec.post enc Try.prog Try.f5 false true false false) := by
  refine returnsInHanded_of_change_sized (C := Try.checked) own started (by kernel_rfl) Try.func5
    (ChangeSpec.witness6 (enc := enc) (C := Try.checked) false ⟨#[], #[.slice none 0 0], []⟩ 8 (by kernel_rfl) (by kernel_rfl) (by kernel_rfl) (by kernel_rfl)) ?_
  intro W base args ds gs before hval0 hW hcnd hwt hsz0
  have hval : ∀ (j : Nat) t v, Try.f5.params[j]? = some t → args[j]? = some v → Value.okWide Try.prog W .any base t v := hval0
  have hW' := hW
  obtain ⟨p, q, hA0, hV, rfl, hfz, hnd⟩ := hW
  have hA : DataW.TrodAll enc Try.prog W 0 (fun _ => true) true Try.f5.params.toList args.toList ds p := hA0
  rw [Try.params5] at hA hval
  obtain ⟨v0, vs0, d0, ds0, p0, q0, hargs, rfl, rfl, h0, r0⟩ := trodAll_cons hA
  obtain ⟨rfl, rfl, rfl⟩ := trodAll_nil r0
  obtain rfl : args = #[v0] := by cases args; simp_all
  obtain ⟨rfl, rfl⟩ := trodVars_none hV
  have lt0 : ∀ x ∈ p0, x.block < W.heap.size := by obtain ⟨m, hm⟩ := h0; exact DataW.trod_lt m _ _ _ hm
  have ok0 := hval 0 24 v0 rfl rfl
  clear hA0 hval0
  have hw2 : (DataW.weightsEach Try.prog [24] [d0]).all (· ≤ reachBytes) = true := by
    have h := hwt
    rw [Try.params5] at h
    exact h
  refine (calls W hw2 _ ok0 h0).mono fun e W' ⟨he, bel⟩ => ?_
  subst he
  exact ⟨_, rfl, _, _, _, [], _, [], hW', trodAll_mk1 (shut_bool Try.underlying4 _), (trodAll_cons_mk (Below.trod laidOut (by kernel_rfl) (of_decide_eq_true (by kernel_rfl)) h0 bel lt0) trodAll_mk0), rfl, bel.frame _, fun h => by cases h⟩

theorem over : Rows.runMixesRow.holds Try.pinned (OpenSpec.ofChange Rows.runMixesSpec) :=
  OpenClaim.holds_of_wide 5 Try.f5 rfl rfl rfl rfl rfl rfl rfl ⟨rfl, rfl, rfl, rfl, rfl⟩ rfl rfl rfl rfl rfl (by kernel_rfl) Try.func5 (by kernel_rfl)
    (of_decide_eq_true (by kernel_rfl)) (by unfold Func.isWrapper; first | (rw [if_pos (by decide +kernel)]; kernel_rfl) | (rw [if_neg (by decide +kernel)]; exact ⟨rfl, rfl⟩))
    (fun os started H enc _ => lifted os started H enc)

theorem proved : Rows.RunMixesSaid := over
#print axioms proved

end Go.Proofs.Ytdilfbdfefppbaa.runMixes
