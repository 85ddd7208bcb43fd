/- The law RunTakes returns true at every argument: run.Takes answers as the document's TakesOf. No condition. -/
import Derived.Test.YtdilfbdfefppbaaLowE
import Derived.Test.YtdilfbdfefppbaaSized
import Derived.Test.YtdilfbdfefppbaaRows
import Derived.WalkKit
import Derived.ProofKit
import Derived.OpenShut
import Derived.ChangeOld
import Derived.Below
set_option linter.unusedVariables false
namespace Go.Proofs.Ytdilfbdfefppbaa.runTakes
open Go Go.Abs Go.RowKit Go.ChangeShapes Go.WideShapes Go.ChangeAt

set_option maxRecDepth 100000 in
theorem calls {H : Type} {enc : TypeId × Value → H} (w : World) {d0 d1 d2 d3 : DataW H}
    (hw : (DataW.weightsEach Try.prog [3, 52, 3, 24] [d0, d1, d2, d3]).all (· ≤ reachBytes) = true)
    (v0 : Value) {r0 : Reach} {b0 : Nat} {p0 : List MemPlace} {s0 : Nat → Bool} {e0 : Bool} (ok0 : Value.okWide Try.prog w r0 b0 3 v0) (h0 : DataW.Trod enc Try.prog w 0 s0 e0 3 v0 d0 p0)
    (v1 : Value) {r1 : Reach} {b1 : Nat} {p1 : List MemPlace} {s1 : Nat → Bool} {e1 : Bool} (ok1 : Value.okWide Try.prog w r1 b1 52 v1) (h1 : DataW.Trod enc Try.prog w 0 s1 e1 52 v1 d1 p1)
    (v2 : Value) {r2 : Reach} {b2 : Nat} {p2 : List MemPlace} {s2 : Nat → Bool} {e2 : Bool} (ok2 : Value.okWide Try.prog w r2 b2 3 v2) (h2 : DataW.Trod enc Try.prog w 0 s2 e2 3 v2 d2 p2)
    (v3 : Value) {r3 : Reach} {b3 : Nat} {p3 : List MemPlace} {s3 : Nat → Bool} {e3 : Bool} (ok3 : Value.okWide Try.prog w r3 b3 24 v3) (h3 : DataW.Trod enc Try.prog w 0 s3 e3 24 v3 d3 p3) :
    Calls Try.prog 9 #[v0, v1, v2, v3] w fun e w' => e = .returned (.bool true) ∧ Below w.heap.size w w' := by
  obtain ⟨_, ⟨n0, rfl, _⟩, m0⟩ := open_value o_int h0
  obtain ⟨_, ⟨x, rfl, _⟩, m1⟩ := open_value o_blk h1
  obtain ⟨_, ⟨n2, rfl, _⟩, m2⟩ := open_value o_int h2
  obtain ⟨_, ⟨l, rfl, _⟩, m3⟩ := open_value o_ints h3
  obtain ⟨c1, q1, _⟩ := okWide_struct Try.underlying52 ok1
  have hl := row_size_sharp Try.underlying24 (by kernel_rfl : Try.prog.bytesOf 3 = 8) h3 m3 hw 3 rfl rfl
  exact law_calls (c_l_RunTakes n0 n2 x l (by omega)) w [v0, v1, v2, v3] rfl fun j y hy => by
    match j, hy with
    | 0, hy => simp at hy; subst hy; exact rep_one_of (one_int Try.underlying3 ok0) m0
    | 1, hy => simp at hy; subst hy; exact rep_agg_of q1 m1
    | 2, hy => simp at hy; subst hy; exact rep_one_of (one_int Try.underlying3 ok2) m2
    | 3, hy => simp at hy; subst hy; exact rep_one_of (one_slice Try.underlying24 ok3) m3

set_option maxRecDepth 100000 in
theorem lifted (os : Os) (started : os.Started) (H : Type) (enc : TypeId × Value → H) :
    ReturnsInHanded {} Try.checked os 9 .any (Rows.runTakesSpec.pre6 enc Try.prog Try.f9 Rows.runTakesRow.domain false) (Rows.runTakesSpec.post enc Try.prog Try.f9 false true false false) := by
  refine returnsInHanded_of_change_sized (C := Try.checked) own started (by kernel_rfl) Try.func9
    (ChangeSpec.witness6 (enc := enc) (C := Try.checked) false ⟨#[], #[.int .i64 0, .agg #[.slice none 0 0, .slice none 0 0, .slice none 0 0], .int .i64 0, .slice none 0 0], []⟩ 8 (by kernel_rfl) (by kernel_rfl) (by kernel_rfl) (by kernel_rfl)) ?_
  intro W base args ds gs before hval0 hW hcnd hwt hsz0
  have hval : ∀ (j : Nat) t v, Try.f9.params[j]? = some t → args[j]? = some v → Value.okWide Try.prog W .any base t v := hval0
  have hW' := hW
  obtain ⟨p, q, hA0, hV, rfl, hfz, hnd⟩ := hW
  have hA : DataW.TrodAll enc Try.prog W 0 (fun _ => true) true Try.f9.params.toList args.toList ds p := hA0
  rw [Try.params9] at hA hval
  obtain ⟨v0, vs0, d0, ds0, p0, q0, hargs, rfl, rfl, h0, r0⟩ := trodAll_cons hA
  obtain ⟨v1, vs1, d1, ds1, p1, q1, rfl, rfl, rfl, h1, r1⟩ := trodAll_cons r0
  obtain ⟨v2, vs2, d2, ds2, p2, q2, rfl, rfl, rfl, h2, r2⟩ := trodAll_cons r1
  obtain ⟨v3, vs3, d3, ds3, p3, q3, rfl, rfl, rfl, h3, r3⟩ := trodAll_cons r2
  obtain ⟨rfl, rfl, rfl⟩ := trodAll_nil r3
  obtain rfl : args = #[v0, v1, v2, v3] := by cases args; simp_all
  obtain ⟨rfl, rfl⟩ := trodVars_none hV
  have lt0 : ∀ x ∈ p0, x.block < W.heap.size := by obtain ⟨m, hm⟩ := h0; exact DataW.trod_lt m _ _ _ hm
  have ok0 := hval 0 3 v0 rfl rfl
  have lt1 : ∀ x ∈ p1, x.block < W.heap.size := by obtain ⟨m, hm⟩ := h1; exact DataW.trod_lt m _ _ _ hm
  have ok1 := hval 1 52 v1 rfl rfl
  have lt2 : ∀ x ∈ p2, x.block < W.heap.size := by obtain ⟨m, hm⟩ := h2; exact DataW.trod_lt m _ _ _ hm
  have ok2 := hval 2 3 v2 rfl rfl
  have lt3 : ∀ x ∈ p3, x.block < W.heap.size := by obtain ⟨m, hm⟩ := h3; exact DataW.trod_lt m _ _ _ hm
  have ok3 := hval 3 24 v3 rfl rfl
  clear hA0 hval0
  have hw2 : (DataW.weightsEach Try.prog [3, 52, 3, 24] [d0, d1, d2, d3]).all (· ≤ reachBytes) = true := by
    have h := hwt
    rw [Try.params9] at h
    exact h
  refine (calls W hw2 _ ok0 h0 _ ok1 h1 _ ok2 h2 _ ok3 h3).mono fun e W' ⟨he, bel⟩ => ?_
  subst he
  exact ⟨_, rfl, _, _, _, [], _, [], hW', trodAll_mk1 (shut_bool Try.underlying4 _), (trodAll_cons_mk (Below.trod laidOut (by kernel_rfl) (of_decide_eq_true (by kernel_rfl)) h0 bel lt0) (trodAll_cons_mk (Below.trod laidOut (by kernel_rfl) (of_decide_eq_true (by kernel_rfl)) h1 bel lt1) (trodAll_cons_mk (Below.trod laidOut (by kernel_rfl) (of_decide_eq_true (by kernel_rfl)) h2 bel lt2) (trodAll_cons_mk (Below.trod laidOut (by kernel_rfl) (of_decide_eq_true (by kernel_rfl)) h3 bel lt3) trodAll_mk0)))), rfl, bel.frame _, fun h => by cases h⟩

theorem over : Rows.runTakesRow.holds Try.pinned (OpenSpec.ofChange Rows.runTakesSpec) :=
  OpenClaim.holds_of_wide 9 Try.f9 rfl rfl rfl rfl rfl rfl rfl ⟨rfl, rfl, rfl, rfl, rfl⟩ rfl rfl rfl rfl rfl (by kernel_rfl) Try.func9 (by kernel_rfl)
    (of_decide_eq_true (by kernel_rfl)) (by unfold Func.isWrapper; first | (rw [if_pos (by decide +kernel)]; kernel_rfl) | (rw [if_neg (by decide +kernel)]; exact ⟨rfl, rfl⟩))
    (fun os started H enc _ => lifted os started H enc)

theorem proved : Rows.RunTakesSaid := over
#print axioms proved

end Go.Proofs.Ytdilfbdfefppbaa.runTakes
