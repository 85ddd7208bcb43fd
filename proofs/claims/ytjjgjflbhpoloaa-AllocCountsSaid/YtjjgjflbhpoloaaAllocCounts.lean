/- The law AllocCounts returns true at every function, machine and output: alloc.Count answers as the document's CountOf. No condition. -/
import Derived.Test.YtjjgjflbhpoloaaAlc
import Derived.Test.YtjjgjflbhpoloaaRows
import Derived.WalkKit
import Derived.ProofKit
import Derived.OpenShut
import Derived.ChangeOld
import Derived.Below
import Derived.SizedLaws
set_option linter.unusedVariables false
namespace Go.Proofs.Ytjjgjflbhpoloaa.allocCounts
open Go Go.Abs Go.RowKit Go.ChangeShapes Go.WideShapes Go.ChangeAt
theorem c_l_nil (f : Fun) (m : Mch) (o : Oup) {e : Int} (h1 : ACallIs B.P 26 [f.av, m.av, o.av] (.tup [nilV, .i64 e])) (h2 : ACallIs B.P 27 [f.av, m.av, o.av] (.tup [nilV, .i64 e])) : ACallIs B.P 8 [f.av, m.av, o.av] (.bool true) := by
 refine ACallIs.enter B _ _ Try.func8 rfl rfl Try.ntmps8 Try.results8 rfl fun hreal => ?_
 clear hreal
 repeat (first|apply zq|apply zb|apply zk)
 apply zr
 intro _
 refine AWp.freezeObj 3 rfl rfl ?_
 refine AWp.freezeObj 4 rfl rfl ?_
 refine AWp.freezeObj 5 rfl rfl ?_
 repeat (first|apply zq|apply zb|apply zk)
 apply zr
 refine CallX.pure h1 rfl rfl rfl ?_
 intro _
 repeat (first|apply zq|apply zb|apply zk)
 apply zr
 refine CallX.pure h2 rfl rfl rfl ?_
 intro _
 repeat (first|apply zq|apply zb|apply zk)
 apply zr
 repeat' (first|refine And.intro ?_ ?_|refine CallK.intro (fun _ => c_sameNia) ?_)
 all_goals first|exact fun h => h|exact gT|exact gF|skip
 intro _
 refine AWp.ret ⟨Or.inl rfl, rfl, ?_⟩
 intro _
 refine tupB (show (bif e == e then true else false) = true from ?_)
 simp
theorem c_l_cnt (f : Fun) (m : Mch) (o : Oup) (h1 : ACallIs B.P 26 [f.av, m.av, o.av] (.tup [cntV o, .i64 0])) (h2 : ACallIs B.P 27 [f.av, m.av, o.av] (.tup [cntV o, .i64 0])) : ACallIs B.P 8 [f.av, m.av, o.av] (.bool true) := by
 have hs := c_sameIa [(cntE o.Edits o.Edits.length).1, (cntE o.Edits o.Edits.length).2, o.Frame] (by show 3 ≤ maxLen; unfold maxLen; omega)
 refine ACallIs.enter B _ _ Try.func8 rfl rfl Try.ntmps8 Try.results8 rfl fun hreal => ?_
 clear hreal
 repeat (first|apply zq|apply zb|apply zk)
 apply zr
 intro _
 refine AWp.freezeObj 3 rfl rfl ?_
 refine AWp.freezeObj 4 rfl rfl ?_
 refine AWp.freezeObj 5 rfl rfl ?_
 repeat (first|apply zq|apply zb|apply zk)
 apply zr
 refine CallX.pure h1 rfl rfl rfl ?_
 intro _
 repeat (first|apply zq|apply zb|apply zk)
 apply zr
 refine CallX.pure h2 rfl rfl rfl ?_
 intro _
 repeat (first|apply zq|apply zb|apply zk)
 apply zr
 repeat' (first|refine And.intro ?_ ?_|refine CallK.intro (fun _ => hs) ?_)
 all_goals first|exact fun h => h|exact gT|exact gF|skip
 intro _
 refine AWp.ret ⟨Or.inl rfl, rfl, ?_⟩
 intro _
 rfl
theorem c_l_both (f : Fun) (m : Mch) (o : Oup) (hoo : Oup.ok o) {b a k c e : Int} (h1 : ACallIs B.P 24 [f.av, m.av, o.av] (.tup [fltV b a k c, .i64 e])) (h2 : ACallIs B.P 25 [f.av, m.av, o.av] (.tup [fltV b a k c, .i64 e])) : ACallIs B.P 8 [f.av, m.av, o.av] (.bool true) := by
 by_cases he : e = 0
 ·subst he
  by_cases hc : c = 0
  ·subst hc
   exact c_l_cnt f m o (c_Count0 f m o hoo h1) (c_CountOf0 f m o hoo h2)
  ·exact c_l_nil f m o (c_CountC (e := 0) f m o h1 hc) (c_CountOfC (e := 0) f m o h2 hc)
 ·exact c_l_nil f m o (c_CountE f m o h1 he) (c_CountOfE f m o h2 he)
theorem c_l_AllocCounts (f : Fun) (m : Mch) (o : Oup) (hok : Fun.ok f) (hoo : Oup.ok o) : ACallIs B.P 8 [f.av, m.av, o.av] (.bool true) := by
 by_cases h0 : outF f m o = 0
 ·obtain ⟨hf0, fr, hO⟩ := out_ok h0
  have hA : AllTo f := Classical.byContradiction fun hn => by rw [flwF_2 hO.chk0 hn] at hf0; cases hf0
  obtain ⟨r1, hr1⟩ := fst3_ex f.Blocks.length (nIn f) (nOp f) (LimP f o)
  obtain ⟨r2, hr2⟩ := fst3_ex f.Blocks.length (nIn f) (nOp f) (ValP f o (22 + fr))
  obtain ⟨b, a, k, c, e⟩ := judR_agg (f := f) (o := o) r1 r2
  have h1 := c_Judge f m o hok hoo hO h0 hA hr1 hr2
  have h2 := c_Judged f m o hok hoo hO h0 hr1 hr2
  rw [e] at h1 h2
  exact c_l_both f m o hoo h1 h2
 ·exact c_l_both f m o hoo (c_JudgeNo f m o hok hoo h0) (c_JudgedNo f m o hok hoo h0)
set_option maxRecDepth 100000 in
theorem calls {H : Type} {enc : TypeId × Value → H} (w : World) {d0 d1 d2 : DataW H}
  (hw : (DataW.weightsEach Try.prog [41, 24, 56] [d0, d1, d2]).all (· ≤ reachBytes) = true)
  (v0 : Value) {r0 : Reach} {b0 : Nat} {p0 : List MemPlace} {s0 : Nat → Bool} {e0 : Bool} (ok0 : Value.okWide Try.prog w r0 b0 41 v0) (h0 : DataW.Trod enc Try.prog w 0 s0 e0 41 v0 d0 p0)
  (v1 : Value) {r1 : Reach} {b1 : Nat} {p1 : List MemPlace} {s1 : Nat → Bool} {e1 : Bool} (ok1 : Value.okWide Try.prog w r1 b1 24 v1) (h1 : DataW.Trod enc Try.prog w 0 s1 e1 24 v1 d1 p1)
  (v2 : Value) {r2 : Reach} {b2 : Nat} {p2 : List MemPlace} {s2 : Nat → Bool} {e2 : Bool} (ok2 : Value.okWide Try.prog w r2 b2 56 v2) (h2 : DataW.Trod enc Try.prog w 0 s2 e2 56 v2 d2 p2)
  : Calls Try.prog 8 #[v0, v1, v2] w fun e w' => e = .returned (.bool true) ∧ Below w.heap.size w w' := by
 obtain ⟨_, ⟨f, rfl, fk⟩, m0⟩ := open_value o_fun hw 0 rfl rfl h0
 obtain ⟨c0, q0, _⟩ := okWide_struct Try.underlying41 ok0
 obtain ⟨_, ⟨m, rfl, mk⟩, m1⟩ := open_value o_mch hw 1 rfl rfl h1
 obtain ⟨c1, q1, _⟩ := okWide_struct Try.underlying24 ok1
 obtain ⟨_, ⟨o, rfl, ok⟩, m2⟩ := open_value o_out hw 2 rfl rfl h2
 obtain ⟨c2, q2, _⟩ := okWide_struct Try.underlying56 ok2
 exact law_calls (c_l_AllocCounts f m o fk ok) w [v0, v1, v2] rfl fun j y hy => by
  match j, hy with
  | 0, hy => simp at hy; subst hy; exact rep_agg_of q0 m0
  | 1, hy => simp at hy; subst hy; exact rep_agg_of q1 m1
  | 2, hy => simp at hy; subst hy; exact rep_agg_of q2 m2
set_option maxRecDepth 100000 in
theorem lifted (os : Os) (started : os.Started) (H : Type) (enc : TypeId × Value → H) :
  ReturnsInHanded {} Try.checked os 8 .any (Rows.allocCountsSpec.pre6 enc Try.prog Try.f8 Rows.allocCountsRow.domain false) (Rows.allocCountsSpec.post enc Try.prog Try.f8 false true false false) := by
 refine returnsInHanded_of_change_sized (C := Try.checked) own started (by kernel_rfl) Try.func8
  (ChangeSpec.witness6 (enc := enc) (C := Try.checked) false ⟨#[], #[.agg #[.slice none 0 0, .slice none 0 0], .agg #[.int .i64 0, .int .i64 0], .agg #[.slice none 0 0, .slice none 0 0, .int .i64 0]], []⟩ 8 (by kernel_rfl) (by kernel_rfl) (by kernel_rfl) (by kernel_rfl)) ?_
 intro W base args ds gs before hval0 hW hcnd hwt hsz0
 have hval : ∀ (j : Nat) t v, Try.f8.params[j]? = some t → args[j]? = some v → Value.okWide Try.prog W .any base t v := hval0
 have hW' := hW
 obtain ⟨p, q, hA0, hV, rfl, hfz, hnd⟩ := hW
 have hA : DataW.TrodAll enc Try.prog W 0 (fun _ => true) true Try.f8.params.toList args.toList ds p := hA0
 rw [Try.params8] at hA hval
 obtain ⟨v0, vs0, d0, ds0, p0, q0, hargs, rfl, rfl, h0, r0⟩ := trodAll_cons hA
 obtain ⟨v1, vs1, d1, ds1, p1, q1, rfl, rfl, rfl, h1, r1⟩ := trodAll_cons r0
 obtain ⟨v2, vs2, d2, ds2, p2, q2, rfl, rfl, rfl, h2, r2⟩ := trodAll_cons r1
 obtain ⟨rfl, rfl, rfl⟩ := trodAll_nil r2
 obtain rfl : args = #[v0, v1, v2] := by cases args; simp_all
 obtain ⟨rfl, rfl⟩ := trodVars_none hV
 have lt0 : ∀ x ∈ p0, x.block < W.heap.size := by obtain ⟨m, hm⟩ := h0; exact DataW.trod_lt m _ _ _ hm
 have ok0 := hval 0 41 v0 rfl rfl
 have lt1 : ∀ x ∈ p1, x.block < W.heap.size := by obtain ⟨m, hm⟩ := h1; exact DataW.trod_lt m _ _ _ hm
 have ok1 := hval 1 24 v1 rfl rfl
 have lt2 : ∀ x ∈ p2, x.block < W.heap.size := by obtain ⟨m, hm⟩ := h2; exact DataW.trod_lt m _ _ _ hm
 have ok2 := hval 2 56 v2 rfl rfl
 clear hA0 hval0
 have hw2 : (DataW.weightsEach Try.prog [41, 24, 56] [d0, d1, d2]).all (· ≤ reachBytes) = true := by
  have h := hwt
  rw [Try.params8] at h
  exact h
 refine (calls W hw2 _ ok0 h0 _ ok1 h1 _ ok2 h2).mono fun e W' ⟨he, bel⟩ => ?_
 subst he
 exact ⟨_, rfl, _, _, _, [], _, [], hW', trodAll_mk1 (shut_bool Try.underlying4 _), (trodAll_cons_mk (Below.trod laidOut (by kernel_rfl) (of_decide_eq_true (by kernel_rfl)) h0 bel lt0) (trodAll_cons_mk (Below.trod laidOut (by kernel_rfl) (of_decide_eq_true (by kernel_rfl)) h1 bel lt1) (trodAll_cons_mk (Below.trod laidOut (by kernel_rfl) (of_decide_eq_true (by kernel_rfl)) h2 bel lt2) trodAll_mk0))), rfl, bel.frame _, fun h => by cases h⟩
theorem over : Rows.allocCountsRow.holds Try.pinned (OpenSpec.ofChange Rows.allocCountsSpec) :=
 OpenClaim.holds_of_wide 8 Try.f8 rfl rfl rfl rfl rfl rfl rfl ⟨rfl, rfl, rfl, rfl, rfl⟩ rfl rfl rfl rfl rfl (by kernel_rfl) Try.func8 (by kernel_rfl)
  (of_decide_eq_true (by kernel_rfl)) (by unfold Func.isWrapper; first|(rw [if_pos (by decide +kernel)]; kernel_rfl)|(rw [if_neg (by decide +kernel)]; exact ⟨rfl, rfl⟩))
  (fun os started H enc _ => lifted os started H enc)
theorem proved : Rows.AllocCountsSaid := over
#print axioms proved
end Go.Proofs.Ytjjgjflbhpoloaa.allocCounts
