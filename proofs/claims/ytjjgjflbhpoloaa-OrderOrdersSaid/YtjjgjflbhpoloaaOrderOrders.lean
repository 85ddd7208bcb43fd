/- The law OrderOrders returns true at every machine, moves, classes and frame: order.Order answers what the document's MovesFault and MovesRight say. No condition. -/
import Derived.Test.YtjjgjflbhpoloaaOrdJ
import Derived.Test.YtjjgjflbhpoloaaRows
import Derived.WalkKit
import Derived.ProofKit
import Derived.OpenShut
import Derived.ChangeOld
import Derived.Below
import Derived.SizedLaws
set_option linter.unusedVariables false
namespace Go.Proofs.Ytjjgjflbhpoloaa.orderOrders
open Go Go.Abs Go.RowKit Go.ChangeShapes Go.WideShapes Go.ChangeAt
theorem mov_same (x : Mov) : (!((x.From.Kind == x.From.Kind) && ((x.From.Class == x.From.Class) && ((x.From.N == x.From.N) && ((x.To.Kind == x.To.Kind) && ((x.To.Class == x.To.Class) && ((x.To.N == x.To.N) && true))))))) = false := by simp
set_option maxHeartbeats 4000000 in
theorem law_no (m : Mch) (l : List Mov) (hl : l.length * 48 ≤ 140737488351232) (cs : List Int) (hc : cs.length * 8 ≤ 140737488351232) (fr : Int) (h0 : mvF m l cs fr ≠ 0) : ACallIs B.P 3 [m.av, roL 6 Mov.cells l, ints cs, .i64 fr] (.bool true) := by
 have hlm : l.length ≤ maxLen := by unfold maxLen; omega
 have h1 := c_moves l (by omega)
 have h2 := c_ints cs (by omega)
 have h3 : ACallIs B.P 11 [m.av, roL 6 Mov.cells l, ints cs, .i64 fr] (.tup [.val (.slice none 0 0), .i64 (mvF m l cs fr)]) := by
  have h := c_Order m l cs fr hlm
  have hv : ordV m l cs fr = .val (.slice none 0 0) := if_neg h0
  rw [hv] at h
  exact h
 have h4 := c_MovesFault m l cs fr hlm
 refine ACallIs.enter B _ _ Try.func3 rfl rfl Try.ntmps3 Try.results3 rfl fun hreal => ?_
 clear hreal
 repeat (first|apply zq|apply zb|apply zk)
 apply zr
 intro _
 refine AWp.freezeObj 4 rfl rfl ?_
 repeat (first|apply zq|apply zb|apply zk)
 apply zr
 repeat' (first|exact trivial|refine And.intro ?_ ?_|refine CallX.pure h1 rfl rfl rfl ?_|fail)
 intro _
 repeat (first|apply zq|apply zb|apply zk)
 refine AWp.quietU (.q 0 [] (.q 1 [] (.q 2 [] (.q 4 [] (.k 3 [] (.k 5 [] (.q 6 [] (.q 7 [] (.q 8 [] (.q 9 [] (.q 10 [] .fin))))) .no) .no))))) [(0, []), (1, []), (2, []), (4, []), (6, []), (7, []), (8, []), (9, []), (10, [])] mixed (by kernel_rfl) ?_
 repeat' (first|exact trivial|refine And.intro ?_ ?_|refine CallX.pure h2 rfl rfl rfl ?_|refine CallX.pure h3 rfl rfl rfl ?_|fail)
 intro _
 repeat (first|apply zq|apply zb|apply zk)
 apply zr
 repeat' (first|exact trivial|refine And.intro ?_ ?_|refine CallX.pure h4 rfl rfl rfl ?_|fail)
 intro _
 repeat (first|apply zq|apply zb|apply zk)
 apply zr
 intro _
 repeat (first|apply zq|apply zb|apply zk)
 refine AWp.loop (fun i : Nat => ⟨[(1, roL 6 Mov.cells l), (3, .i64 fr), (4, .ptr m.cells), (9, roL 6 Mov.cells l), (10, .val (.slice none 0 0)), (11, .i64 (mvF m l cs fr)), (12, .i64 (mvF m l cs fr)), (13, .i64 i)], []⟩) (fun i => i ≤ l.length) (fun i => l.length - i) 0 (Nat.zero_le _) ?_ ?_
 ·repeat' (first|exact rfl|exact trivial|refine And.intro ?_ ?_)
 intro i hi0
 repeat (first|apply zq|apply zb|apply zk)
 apply zr
 intro _
 repeat (first|apply zq|apply zb|apply zk)
 refine AWp.cond (And.intro (fun h5 => ?_) (fun h5 => ?_))
 ·have hi : i < l.length := Int.ofNat_lt.1 (of_decide_eq_true h5)
  repeat (first|apply zq|apply zb|apply zk)
  refine AWp.draw mixed (by kernel_rfl) ?_
  repeat' (first|exact trivial|refine And.intro ?_ ?_|fail)
  all_goals first|exact fun _ => nn (hi)|skip
  intro _
  repeat (first|apply zq|apply zb|apply zk)
  refine AWp.cond (And.intro (fun h6 => ?_) (fun h6 => ?_))
  ·exact Bool.noConfusion ((mov_same (l.getD i default)).symm.trans h6)
  refine AWp.skip ?_
  repeat (first|apply zq|apply zb|apply zk)
  apply zr
  intro _
  refine round_end (i + 1) hi ?_ (by omega)
  repeat' (first|exact rfl|exact trivial|exact congrArg (fun z => some (AV.i64 z)) (wrap_succ hi hlm)|refine And.intro ?_ ?_)
 have hi3 : ¬ (i : Int) < l.length := of_decide_eq_false h5
 obtain rfl : i = l.length := by omega
 apply ze
 repeat (first|apply zq|apply zb|apply zk)
 apply zr
 intro _
 repeat (first|apply zq|apply zb|apply zk)
 refine AWp.cond (And.intro (fun h6 => ?_) (fun h6 => ?_))
 ·repeat (first|apply zq|apply zb|apply zk)
  apply zr
  repeat' (first|exact trivial|refine And.intro ?_ ?_|fail)
  all_goals first|exact fun hh => hh|exact gT|exact gF|exact gN|exact gA|skip
  intro _
  refine AWp.ret ⟨Or.inl rfl, rfl, ?_⟩
  intro _
  refine tupB (show (bif mvF m l cs fr == mvF m l cs fr then true else false) = true from ?_)
  simp
 exact absurd (show (mvF m l cs fr != 0) = false from h6) (by simpa using h0)
set_option maxHeartbeats 4000000 in
theorem law_yes (m : Mch) (l : List Mov) (hl : l.length * 48 ≤ 140737488351232) (cs : List Int) (hc : cs.length * 8 ≤ 140737488351232) (fr : Int) (h0 : mvF m l cs fr = 0) : ACallIs B.P 3 [m.av, roL 6 Mov.cells l, ints cs, .i64 fr] (.bool true) := by
 have hlm : l.length ≤ maxLen := by unfold maxLen; omega
 have h1 := c_moves l (by omega)
 have h2 := c_ints cs (by omega)
 obtain ⟨hm, hf, hl5, hg⟩ := mvF_zero h0
 obtain ⟨F, rfl⟩ := Int.eq_ofNat_of_zero_le hf.1
 have hF : F < 1000 := by omega
 have hM : MvsOk m F (lkP (prL l cs l.length)) l := mvsOk_of hg
 have I := doI_out hm (DoI.start hM hm (idS (F + 23)))
 have h3 : ACallIs B.P 11 [m.av, roL 6 Mov.cells l, ints cs, .i64 (F : Nat)] (.tup [mvR (outF m F (lkP (prL l cs l.length)) (l.filter mvB)), .i64 0]) := by
  have h := c_Order m l cs (F : Nat) hlm
  have hv : ordV m l cs (F : Nat) = mvR (outF m F (lkP (prL l cs l.length)) (l.filter mvB)) := if_pos h0
  rw [hv, h0] at h
  exact h
 have h4 := c_MovesFault m l cs (F : Nat) hlm
 rw [h0] at h4
 have h7 := c_MovesRight m hm F hF l (outF m F (lkP (prL l cs l.length)) (l.filter mvB)) hl5 (fun j hj => ⟨hM.frm j hj, hM.to j hj⟩) (by have h := I.len; simpa [frE] using h) I.ok (fun c hc hs => I.dst c hc hs (fun y hy => absurd hy List.not_mem_nil))
 refine ACallIs.enter B _ _ Try.func3 rfl rfl Try.ntmps3 Try.results3 rfl fun hreal => ?_
 clear hreal
 repeat (first|apply zq|apply zb|apply zk)
 apply zr
 intro _
 refine AWp.freezeObj 4 rfl rfl ?_
 repeat (first|apply zq|apply zb|apply zk)
 apply zr
 repeat' (first|exact trivial|refine And.intro ?_ ?_|refine CallX.pure h1 rfl rfl rfl ?_|fail)
 intro _
 repeat (first|apply zq|apply zb|apply zk)
 refine AWp.quietU (.q 0 [] (.q 1 [] (.q 2 [] (.q 4 [] (.k 3 [] (.k 5 [] (.q 6 [] (.q 7 [] (.q 8 [] (.q 9 [] (.q 10 [] .fin))))) .no) .no))))) [(0, []), (1, []), (2, []), (4, []), (6, []), (7, []), (8, []), (9, []), (10, [])] mixed (by kernel_rfl) ?_
 repeat' (first|exact trivial|refine And.intro ?_ ?_|refine CallX.pure h2 rfl rfl rfl ?_|refine CallX.pure h3 rfl rfl rfl ?_|fail)
 intro _
 repeat (first|apply zq|apply zb|apply zk)
 apply zr
 repeat' (first|exact trivial|refine And.intro ?_ ?_|refine CallX.pure h4 rfl rfl rfl ?_|fail)
 intro _
 repeat (first|apply zq|apply zb|apply zk)
 apply zr
 intro _
 repeat (first|apply zq|apply zb|apply zk)
 refine AWp.loop (fun i : Nat => ⟨[(1, roL 6 Mov.cells l), (3, .i64 (F : Nat)), (4, .ptr m.cells), (9, roL 6 Mov.cells l), (10, mvR (outF m F (lkP (prL l cs l.length)) (l.filter mvB))), (11, .i64 (0 : Int)), (12, .i64 (0 : Int)), (13, .i64 i)], []⟩) (fun i => i ≤ l.length) (fun i => l.length - i) 0 (Nat.zero_le _) ?_ ?_
 ·repeat' (first|exact rfl|exact trivial|refine And.intro ?_ ?_)
 intro i hi0
 repeat (first|apply zq|apply zb|apply zk)
 apply zr
 intro _
 repeat (first|apply zq|apply zb|apply zk)
 refine AWp.cond (And.intro (fun h5 => ?_) (fun h5 => ?_))
 ·have hi : i < l.length := Int.ofNat_lt.1 (of_decide_eq_true h5)
  repeat (first|apply zq|apply zb|apply zk)
  refine AWp.draw mixed (by kernel_rfl) ?_
  repeat' (first|exact trivial|refine And.intro ?_ ?_|fail)
  all_goals first|exact fun _ => nn (hi)|skip
  intro _
  repeat (first|apply zq|apply zb|apply zk)
  refine AWp.cond (And.intro (fun h6 => ?_) (fun h6 => ?_))
  ·exact Bool.noConfusion ((mov_same (l.getD i default)).symm.trans h6)
  refine AWp.skip ?_
  repeat (first|apply zq|apply zb|apply zk)
  apply zr
  intro _
  refine round_end (i + 1) hi ?_ (by omega)
  repeat' (first|exact rfl|exact trivial|exact congrArg (fun z => some (AV.i64 z)) (wrap_succ hi hlm)|refine And.intro ?_ ?_)
 have hi3 : ¬ (i : Int) < l.length := of_decide_eq_false h5
 obtain rfl : i = l.length := by omega
 apply ze
 repeat (first|apply zq|apply zb|apply zk)
 apply zr
 intro _
 repeat (first|apply zq|apply zb|apply zk)
 refine AWp.cond (And.intro (fun h6 => ?_) (fun h6 => ?_))
 ·exact absurd h6 (by decide)
 refine AWp.skip ?_
 repeat (first|apply zq|apply zb|apply zk)
 apply zr
 repeat' (first|exact trivial|refine And.intro ?_ ?_|refine CallK.intro (fun _ => h7) ?_|fail)
 all_goals first|exact fun hh => hh|exact gT|exact gF|exact gN|exact gA|skip
 intro _
 refine AWp.ret ⟨Or.inl rfl, rfl, ?_⟩
 intro _
 rfl
theorem c_l_OrderOrders (m : Mch) (l : List Mov) (hl : l.length * 48 ≤ 140737488351232) (cs : List Int) (hc : cs.length * 8 ≤ 140737488351232) (fr : Int) : ACallIs B.P 3 [m.av, roL 6 Mov.cells l, ints cs, .i64 fr] (.bool true) := by
 by_cases h0 : mvF m l cs fr = 0
 ·exact law_yes m l hl cs hc fr h0
 ·exact law_no m l hl cs hc fr h0
set_option maxRecDepth 100000 in
theorem calls {H : Type} {enc : TypeId × Value → H} (w : World) {d0 d1 d2 d3 : DataW H}
  (hw : (DataW.weightsEach Try.prog [24, 25, 26, 3] [d0, d1, d2, d3]).all (· ≤ reachBytes) = true)
  (v0 : Value) {r0 : Reach} {b0 : Nat} {p0 : List MemPlace} {s0 : Nat → Bool} {e0 : Bool} (ok0 : Value.okWide Try.prog w r0 b0 24 v0) (h0 : DataW.Trod enc Try.prog w 0 s0 e0 24 v0 d0 p0)
  (v1 : Value) {r1 : Reach} {b1 : Nat} {p1 : List MemPlace} {s1 : Nat → Bool} {e1 : Bool} (ok1 : Value.okWide Try.prog w r1 b1 25 v1) (h1 : DataW.Trod enc Try.prog w 0 s1 e1 25 v1 d1 p1)
  (v2 : Value) {r2 : Reach} {b2 : Nat} {p2 : List MemPlace} {s2 : Nat → Bool} {e2 : Bool} (ok2 : Value.okWide Try.prog w r2 b2 26 v2) (h2 : DataW.Trod enc Try.prog w 0 s2 e2 26 v2 d2 p2)
  (v3 : Value) {r3 : Reach} {b3 : Nat} {p3 : List MemPlace} {s3 : Nat → Bool} {e3 : Bool} (ok3 : Value.okWide Try.prog w r3 b3 3 v3) (h3 : DataW.Trod enc Try.prog w 0 s3 e3 3 v3 d3 p3)
  : Calls Try.prog 3 #[v0, v1, v2, v3] w fun e w' => e = .returned (.bool true) ∧ Below w.heap.size w w' := by
 obtain ⟨_, ⟨m, rfl, mk⟩, m0⟩ := open_value o_mch hw 0 rfl rfl h0
 obtain ⟨c0, q0, _⟩ := okWide_struct Try.underlying24 ok0
 obtain ⟨_, ⟨l, rfl, lk⟩, m1⟩ := open_value o_moves hw 1 rfl rfl h1
 obtain ⟨_, ⟨cs, rfl, csk⟩, m2⟩ := open_value o_ints hw 2 rfl rfl h2
 obtain ⟨_, ⟨fr, rfl, frk⟩, m3⟩ := open_value o_int hw 3 rfl rfl h3
 exact law_calls (c_l_OrderOrders m l lk.1 cs csk.1 fr) w [v0, v1, v2, v3] rfl fun j y hy => by
  match j, hy with
  | 0, hy => simp at hy; subst hy; exact rep_agg_of q0 m0
  | 1, hy => simp at hy; subst hy; exact rep_one_of (one_slice Try.underlying25 ok1) m1
  | 2, hy => simp at hy; subst hy; exact rep_one_of (one_slice Try.underlying26 ok2) m2
  | 3, hy => simp at hy; subst hy; exact rep_one_of (one_int Try.underlying3 ok3) m3
set_option maxRecDepth 100000 in
theorem lifted (os : Os) (started : os.Started) (H : Type) (enc : TypeId × Value → H) :
  ReturnsInHanded {} Try.checked os 3 .any (Rows.orderOrdersSpec.pre6 enc Try.prog Try.f3 Rows.orderOrdersRow.domain false) (Rows.orderOrdersSpec.post enc Try.prog Try.f3 false true false false) := by
 refine returnsInHanded_of_change_sized (C := Try.checked) own started (by kernel_rfl) Try.func3
  (ChangeSpec.witness6 (enc := enc) (C := Try.checked) false ⟨#[], #[.agg #[.int .i64 0, .int .i64 0], .slice none 0 0, .slice none 0 0, .int .i64 0], []⟩ 8 (by kernel_rfl) (by kernel_rfl) (by kernel_rfl) (by kernel_rfl)) ?_
 intro W base args ds gs before hval0 hW hcnd hwt hsz0
 have hval : ∀ (j : Nat) t v, Try.f3.params[j]? = some t → args[j]? = some v → Value.okWide Try.prog W .any base t v := hval0
 have hW' := hW
 obtain ⟨p, q, hA0, hV, rfl, hfz, hnd⟩ := hW
 have hA : DataW.TrodAll enc Try.prog W 0 (fun _ => true) true Try.f3.params.toList args.toList ds p := hA0
 rw [Try.params3] at hA hval
 obtain ⟨v0, vs0, d0, ds0, p0, q0, hargs, rfl, rfl, h0, r0⟩ := trodAll_cons hA
 obtain ⟨v1, vs1, d1, ds1, p1, q1, rfl, rfl, rfl, h1, r1⟩ := trodAll_cons r0
 obtain ⟨v2, vs2, d2, ds2, p2, q2, rfl, rfl, rfl, h2, r2⟩ := trodAll_cons r1
 obtain ⟨v3, vs3, d3, ds3, p3, q3, rfl, rfl, rfl, h3, r3⟩ := trodAll_cons r2
 obtain ⟨rfl, rfl, rfl⟩ := trodAll_nil r3
 obtain rfl : args = #[v0, v1, v2, v3] := by cases args; simp_all
 obtain ⟨rfl, rfl⟩ := trodVars_none hV
 have lt0 : ∀ x ∈ p0, x.block < W.heap.size := by obtain ⟨m, hm⟩ := h0; exact DataW.trod_lt m _ _ _ hm
 have ok0 := hval 0 24 v0 rfl rfl
 have lt1 : ∀ x ∈ p1, x.block < W.heap.size := by obtain ⟨m, hm⟩ := h1; exact DataW.trod_lt m _ _ _ hm
 have ok1 := hval 1 25 v1 rfl rfl
 have lt2 : ∀ x ∈ p2, x.block < W.heap.size := by obtain ⟨m, hm⟩ := h2; exact DataW.trod_lt m _ _ _ hm
 have ok2 := hval 2 26 v2 rfl rfl
 have lt3 : ∀ x ∈ p3, x.block < W.heap.size := by obtain ⟨m, hm⟩ := h3; exact DataW.trod_lt m _ _ _ hm
 have ok3 := hval 3 3 v3 rfl rfl
 clear hA0 hval0
 have hw2 : (DataW.weightsEach Try.prog [24, 25, 26, 3] [d0, d1, d2, d3]).all (· ≤ reachBytes) = true := by
  have h := hwt
  rw [Try.params3] at h
  exact h
 refine (calls W hw2 _ ok0 h0 _ ok1 h1 _ ok2 h2 _ ok3 h3).mono fun e W' ⟨he, bel⟩ => ?_
 subst he
 exact ⟨_, rfl, _, _, _, [], _, [], hW', trodAll_mk1 (shut_bool Try.underlying4 _), (trodAll_cons_mk (Below.trod laidOut (by kernel_rfl) (of_decide_eq_true (by kernel_rfl)) h0 bel lt0) (trodAll_cons_mk (Below.trod laidOut (by kernel_rfl) (of_decide_eq_true (by kernel_rfl)) h1 bel lt1) (trodAll_cons_mk (Below.trod laidOut (by kernel_rfl) (of_decide_eq_true (by kernel_rfl)) h2 bel lt2) (trodAll_cons_mk (Below.trod laidOut (by kernel_rfl) (of_decide_eq_true (by kernel_rfl)) h3 bel lt3) trodAll_mk0)))), rfl, bel.frame _, fun h => by cases h⟩
theorem over : Rows.orderOrdersRow.holds Try.pinned (OpenSpec.ofChange Rows.orderOrdersSpec) :=
 OpenClaim.holds_of_wide 3 Try.f3 rfl rfl rfl rfl rfl rfl rfl ⟨rfl, rfl, rfl, rfl, rfl⟩ rfl rfl rfl rfl rfl (by kernel_rfl) Try.func3 (by kernel_rfl)
  (of_decide_eq_true (by kernel_rfl)) (by unfold Func.isWrapper; first|(rw [if_pos (by decide +kernel)]; kernel_rfl)|(rw [if_neg (by decide +kernel)]; exact ⟨rfl, rfl⟩))
  (fun os started H enc _ => lifted os started H enc)
theorem proved : Rows.OrderOrdersSaid := over
#print axioms proved
end Go.Proofs.Ytjjgjflbhpoloaa.orderOrders
