/- The law ShapeMeets returns true at every two operands: shape.Meet answers as the document's Apart. No condition. -/
import Derived.Test.YtdilfbdfefppbaaLowB
import Derived.Test.YtdilfbdfefppbaaRows
import Derived.WalkKit
import Derived.ProofKit
import Derived.OpenShut
import Derived.ChangeOld
import Derived.Below
set_option linter.unusedVariables false
namespace Go.Proofs.Ytdilfbdfefppbaa.shapeMeets
open Go Go.Abs Go.RowKit Go.ChangeShapes Go.WideShapes Go.ChangeAt

set_option maxRecDepth 100000 in
theorem calls {H : Type} {enc : TypeId × Value → H} (w : World) (v0 : Value) {r : Reach} {b0 : Nat} {d0 : DataW H} {p0 : List MemPlace} {spare : Nat → Bool} {held : Bool} (ok0 : Value.okWide Try.prog w r b0 47 v0) (h0 : DataW.Trod enc Try.prog w 0 spare held 47 v0 d0 p0)
    (v1 : Value) {r1 : Reach} {b1 : Nat} {d1 : DataW H} {p1 : List MemPlace} {spare1 : Nat → Bool} {held1 : Bool} (ok1 : Value.okWide Try.prog w r1 b1 47 v1) (h1 : DataW.Trod enc Try.prog w 0 spare1 held1 47 v1 d1 p1) :
    Calls Try.prog 8 #[v0, v1] w fun e w' => e = .returned (.bool true) ∧ Below w.heap.size w w' := by
  obtain ⟨_, ⟨a, rfl, _⟩, ha⟩ := open_value o_opd h0
  obtain ⟨c0, e0, _⟩ := okWide_struct Try.underlying47 ok0
  obtain ⟨_, ⟨b, rfl, _⟩, hb⟩ := open_value o_opd h1
  obtain ⟨c1, e1, _⟩ := okWide_struct Try.underlying47 ok1
  exact law_calls (c_l_ShapeMeets a b) w [v0, v1] rfl fun j x hx => by
    match j, hx with
    | 0, hx => simp at hx; subst hx; exact rep_agg_of e0 ha
    | 1, hx => simp at hx; subst hx; exact rep_agg_of e1 hb

set_option maxRecDepth 100000 in
theorem lifted (os : Os) (started : os.Started) (H : Type) (enc : TypeId × Value → H) :
    ReturnsInHanded {} Try.checked os 8 .any (Rows.shapeMeetsSpec.pre6 enc Try.prog Try.f8 Rows.shapeMeetsRow.domain false) (Rows.shapeMeetsSpec.post enc Try.prog Try.f8 false true false false) := by
  refine returnsInHanded_of_change (C := Try.checked) own started (by kernel_rfl) Try.func8
    (ChangeSpec.witness6 (enc := enc) (C := Try.checked) false ⟨#[], #[.agg #[.int .i64 0, .int .i64 0, .bool false, .int .i64 0, .int .i64 0], .agg #[.int .i64 0, .int .i64 0, .bool false, .int .i64 0, .int .i64 0]], []⟩ 8 (by kernel_rfl) (by kernel_rfl) (by kernel_rfl) (by kernel_rfl)) ?_
  intro W base args ds gs before hval0 hW hcnd hsz0
  have hval : ∀ (j : Nat) t v, Try.f8.params[j]? = some t → args[j]? = some v → Value.okWide Try.prog W .any base t v := hval0
  have hW' := hW
  obtain ⟨p, q, hA0, hV, rfl, hfz, hnd⟩ := hW
  have hA : DataW.TrodAll enc Try.prog W 0 (fun _ => true) true Try.f8.params.toList args.toList ds p := hA0
  rw [Try.params8] at hA hval
  obtain ⟨v0, vs0, d0, ds0, p0, q0, hargs, rfl, rfl, h0, r0⟩ := trodAll_cons hA
  obtain ⟨v1, vs1, d1, ds1, p1, q1, rfl, rfl, rfl, h1, r1⟩ := trodAll_cons r0
  obtain ⟨rfl, rfl, rfl⟩ := trodAll_nil r1
  obtain rfl : args = #[v0, v1] := by cases args; simp_all
  obtain ⟨rfl, rfl⟩ := trodVars_none hV
  have lt0 : ∀ x ∈ p0, x.block < W.heap.size := by obtain ⟨m, hm⟩ := h0; exact DataW.trod_lt m _ _ _ hm
  have ok0 := hval 0 47 v0 rfl rfl
  have lt1 : ∀ x ∈ p1, x.block < W.heap.size := by obtain ⟨m, hm⟩ := h1; exact DataW.trod_lt m _ _ _ hm
  have ok1 := hval 1 47 v1 rfl rfl
  clear hA0 hval0
  refine (calls W _ ok0 h0 _ ok1 h1).mono fun e W' ⟨he, bel⟩ => ?_
  subst he
  exact ⟨_, rfl, _, _, _, [], _, [], hW', trodAll_mk1 (shut_bool Try.underlying4 _), (trodAll_cons_mk (Below.trod laidOut (by kernel_rfl) (of_decide_eq_true (by kernel_rfl)) h0 bel lt0) (trodAll_cons_mk (Below.trod laidOut (by kernel_rfl) (of_decide_eq_true (by kernel_rfl)) h1 bel lt1) trodAll_mk0)), rfl, bel.frame _, fun h => by cases h⟩

theorem over : Rows.shapeMeetsRow.holds Try.pinned (OpenSpec.ofChange Rows.shapeMeetsSpec) :=
  OpenClaim.holds_of_wide 8 Try.f8 rfl rfl rfl rfl rfl rfl rfl ⟨rfl, rfl, rfl, rfl, rfl⟩ rfl rfl rfl rfl rfl (by kernel_rfl) Try.func8 (by kernel_rfl)
    (of_decide_eq_true (by kernel_rfl)) (by unfold Func.isWrapper; first | (rw [if_pos (by decide +kernel)]; kernel_rfl) | (rw [if_neg (by decide +kernel)]; exact ⟨rfl, rfl⟩))
    (fun os started H enc _ => lifted os started H enc)

theorem proved : Rows.ShapeMeetsSaid := over
#print axioms proved

end Go.Proofs.Ytdilfbdfefppbaa.shapeMeets
