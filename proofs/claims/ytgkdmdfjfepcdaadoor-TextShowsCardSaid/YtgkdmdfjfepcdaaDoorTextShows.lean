/- The law TextShows returns true at every script: text.Show answers as the document's ScriptText. No condition but what the card lists: the package's tables of words and the library's tables hold what their initialisers lay. -/
import Derived.Test.YtgkdmdfjfepcdaaDoorTxt
import Derived.Test.YtgkdmdfjfepcdaaDoorRows
import Derived.Test.YtgkdmdfjfepcdaaDoorCards
import Derived.Test.YtgkdmdfjfepcdaaDoorTie
import Derived.WalkKit
import Derived.ProofKit
import Derived.LaidMore
import Derived.OpenShut
import Derived.ChangeOld
import Derived.Below
import Derived.SizedLaws
import Derived.Stop.Joined
import Derived.SevenTiedAt
set_option linter.unusedVariables false
namespace Go.Proofs.YtgkdmdfjfepcdaaDoor.textShows
open Go Go.Abs Go.RowKit Go.ChangeShapes Go.WideShapes Go.ChangeAt

theorem scrP_of {s : Scr} (hok : Scr.ok s) (h0 : scrF s = 0) : ScrP s := by
  have h1 : flwF s.Func s.Machine = 0 := Classical.byContradiction fun hn => hn (by rw [scrF_1 hn] at h0; exact h0)
  have h2 : ¬ (s.Seed < 0 ∨ 1073741824 < s.Seed ∨ s.Steps < 0 ∨ 5000 < s.Steps) := fun hn => by rw [scrF_2 h1 hn] at h0; cases h0
  have h3 : ¬ 64 < s.Junk.length := fun hn => by rw [scrF_3 h1 h2 hn] at h0; cases h0
  have h4 : firstF (jnkG s.Junk) s.Junk.length = 0 := by rw [scrF_4 h1 h2 h3 rfl] at h0; exact h0
  have hchk : chkF s.Func s.Machine = 0 := Classical.byContradiction fun hn => by rw [flwF_1 hn] at h1; exact hn h1
  have hC := chkd_of hchk
  have hz := hC.e.siz
  obtain ⟨g1, g2, g3, g4, g5⟩ := chkF_zero hchk
  have hm : inB s.Machine.r0 2 10 = true ∧ inB s.Machine.r1 2 10 = true := by
    unfold machF at g1
    split at g1
    · rename_i h; simpa using h
    · cases g1
  have hr : Nn s.Machine.r0 ∧ Nn s.Machine.r1 := by
    unfold inB at hm; simp only [Bool.and_eq_true, decide_eq_true_eq] at hm
    unfold Nn; omega
  have hval : ∀ v, valB s.Func v = true → Nn v := fun v hv => by
    have := hz.values
    unfold valB at hv; simp only [Bool.and_eq_true, decide_eq_true_eq] at hv
    unfold Nn; omega
  refine ⟨hz, hr, by unfold Nn; omega, by unfold Nn; omega, ⟨by omega, fun n hn => ?_⟩, fun n hn => ?_, fun k hk n hn => ?_, fun k hk x hx => ?_, fun k hk e he => ?_⟩
  · obtain ⟨j, hj, rfl⟩ := getD_of_mem hn
    have := firstF_zero h4 j hj
    unfold jnkG at this
    split at this
    · cases this
    · unfold Nn; omega
  · obtain ⟨j, hj, rfl⟩ := getD_of_mem hn
    have := firstF_zero g3 j hj
    unfold clsG at this
    split at this
    · cases this
    · unfold Nn; omega
  · have h5 : n ∈ makL s.Func := by
      unfold makL mkB
      rw [List.take_length]
      exact List.mem_flatMap.2 ⟨_, getD_memT hk, List.mem_append_left _ hn⟩
    have h6 := (nodup_of hC.ok).2 n h5
    have := hz.values
    unfold Nn; omega
  · obtain ⟨i, hi, rfl⟩ := getD_of_mem hx
    have hb := (blkF_zero (firstF_zero g4 k hk)).1
    have hi2 : insF s.Func s.Machine ((s.Func.Blocks.getD k default).Instrs.getD i default) = 0 := firstF_zero hb i hi
    have hl := hz.ops k i hk hi
    have hs := hz.spo k i hk hi
    generalize (s.Func.Blocks.getD k default).Instrs.getD i default = x at *
    have q1 : ¬ (x.Op < 0 ∨ 255 < x.Op) := fun hn => by rw [insF_op hn] at hi2; cases hi2
    have q2 : firstF (opdG s.Func s.Machine x) x.Operands.length = 0 := Classical.byContradiction fun hn => by rw [insF_a q1 rfl hn] at hi2; exact hn hi2
    have q3 : firstF (reuG s.Func x) x.Operands.length = 0 := Classical.byContradiction fun hn => by rw [insF_b q1 q2 rfl hn] at hi2; exact hn hi2
    have q4 : firstF (spoG s.Machine x.Spoils) x.Spoils.length = 0 := Classical.byContradiction fun hn => by rw [insF_s q1 q2 q3 rfl hn] at hi2; exact hn hi2
    refine ⟨by unfold Nn; omega, hl, fun o ho => ?_, hs, fun r hr => ?_⟩
    · obtain ⟨j, hj, rfl⟩ := getD_of_mem ho
      obtain ⟨o1, o2, o3, o4⟩ := opdF_ok g1 (firstF_zero q2 j hj)
      have o5 := firstF_zero q3 j hj
      refine ⟨o2, by omega, hval _ o1, fun hli => ?_⟩
      by_cases e4 : (x.Operands.getD j default).Limit = 4
      · have := o4 e4; unfold Nn; omega
      · have e5 : (x.Operands.getD j default).Limit = 5 := by omega
        unfold reuG at o5
        rw [if_pos e5] at o5
        unfold reuF at o5
        split at o5
        · cases o5
        · unfold Nn; omega
    · obtain ⟨j, hj, rfl⟩ := getD_of_mem hr
      have := spoG_ok g1 (firstF_zero q4 j hj)
      unfold Nn; omega
  · obtain ⟨j, hj, rfl⟩ := getD_of_mem he
    have hb := (blkF_zero (firstF_zero g4 k hk)).2
    have h7 : edgF s.Func ((s.Func.Blocks.getD k default).Edges.getD j default) = 0 := firstF_zero hb j hj
    have hbl := hz.blocks
    refine ⟨?_, hC.argl k j hk hj, fun n hn => ?_⟩
    · unfold edgF at h7
      split at h7
      · cases h7
      · unfold Nn; omega
    · obtain ⟨a, ha, rfl⟩ := getD_of_mem hn
      exact hval _ (hC.argv k j a hk hj ha)
theorem c_ShowNo (s : Scr) (hok : Scr.ok s) (h0 : scrF s ≠ 0) : ACallIs B.P 4 [s.av] (.tup [strV [], .i64 (scrF s)]) := by
  have hc := c_WireCheck s hok
  refine ACallIs.enter B _ _ Tryd.func4 rfl rfl Tryd.ntmps4 Tryd.results4 rfl fun hreal => ?_
  clear hreal
  repeat (first | refine AWp.seq ?_ | refine AWp.block ?_ | refine AWp.skip ?_)
  refine AWp.region ?_
  intro _
  refine AWp.freezeObj 1 rfl rfl ?_
  repeat (first | refine AWp.seq ?_ | refine AWp.block ?_ | refine AWp.skip ?_)
  refine AWp.region ?_
  refine CallX.pure hc rfl rfl rfl ?_
  intro _
  repeat (first | refine AWp.seq ?_ | refine AWp.block ?_ | refine AWp.skip ?_)
  refine AWp.region ?_
  intro _
  repeat (first | refine AWp.seq ?_ | refine AWp.block ?_ | refine AWp.skip ?_)
  refine AWp.cond (And.intro (fun h1 => ?_) (fun h1 => ?_))
  · repeat (first | refine AWp.seq ?_ | refine AWp.block ?_ | refine AWp.skip ?_)
    refine AWp.region ?_
    intro _
    refine AWp.ret ⟨Or.inl rfl, rfl, ?_⟩
    intro _
    rfl
  · have h1 : (scrF s != 0) = false := h1
    simp at h1
    exact absurd h1 h0
theorem c_ScriptTextNo (s : Scr) (hok : Scr.ok s) (h0 : scrF s ≠ 0) : ACallIs B.P 5 [s.av] (.tup [strV [], .i64 (scrF s)]) := by
  have hc := c_ScriptFault s hok
  refine ACallIs.enter B _ _ Tryd.func5 rfl rfl Tryd.ntmps5 Tryd.results5 rfl fun hreal => ?_
  clear hreal
  repeat (first | refine AWp.seq ?_ | refine AWp.block ?_ | refine AWp.skip ?_)
  refine AWp.region ?_
  intro _
  refine AWp.freezeObj 1 rfl rfl ?_
  repeat (first | refine AWp.seq ?_ | refine AWp.block ?_ | refine AWp.skip ?_)
  refine AWp.region ?_
  refine CallX.pure hc rfl rfl rfl ?_
  intro _
  repeat (first | refine AWp.seq ?_ | refine AWp.block ?_ | refine AWp.skip ?_)
  refine AWp.region ?_
  intro _
  repeat (first | refine AWp.seq ?_ | refine AWp.block ?_ | refine AWp.skip ?_)
  refine AWp.cond (And.intro (fun h1 => ?_) (fun h1 => ?_))
  · repeat (first | refine AWp.seq ?_ | refine AWp.block ?_ | refine AWp.skip ?_)
    refine AWp.region ?_
    intro _
    refine AWp.ret ⟨Or.inl rfl, rfl, ?_⟩
    intro _
    rfl
  · have h1 : (scrF s != 0) = false := h1
    simp at h1
    exact absurd h1 h0
theorem c_l_TextShows (s : Scr) (hok : Scr.ok s) : ACallIs B.P 3 [s.av] (.bool true) := by
  have key : ∀ (t : List UInt8) (e : Int), ACallIs B.P 4 [s.av] (.tup [strV t, .i64 e]) → ACallIs B.P 5 [s.av] (.tup [strV t, .i64 e]) → ACallIs B.P 3 [s.av] (.bool true) := fun t e c1 c2 => by
    refine ACallIs.enter B _ _ Tryd.func3 rfl rfl Tryd.ntmps3 Tryd.results3 rfl fun hreal => ?_
    clear hreal
    repeat (first | refine AWp.seq ?_ | refine AWp.block ?_ | refine AWp.skip ?_)
    refine AWp.region ?_
    intro _
    refine AWp.freezeObj 1 rfl rfl ?_
    repeat (first | refine AWp.seq ?_ | refine AWp.block ?_ | refine AWp.skip ?_)
    refine AWp.region ?_
    refine CallX.pure c1 rfl rfl rfl ?_
    intro _
    repeat (first | refine AWp.seq ?_ | refine AWp.block ?_ | refine AWp.skip ?_)
    refine AWp.region ?_
    refine CallX.pure c2 rfl rfl rfl ?_
    intro _
    repeat (first | refine AWp.seq ?_ | refine AWp.block ?_ | refine AWp.skip ?_)
    refine AWp.region ?_
    repeat' refine And.intro ?_ ?_
    all_goals first | exact fun h => h | exact gT | exact gF | skip
    intro _
    refine AWp.ret ⟨Or.inl rfl, rfl, ?_⟩
    intro _
    refine tupB (show (bif ((strOf t).toList == (strOf t).toList) then (e == e) else false) = true from ?_)
    simp
  by_cases h0 : scrF s = 0
  · exact key _ _ (c_Show s hok h0 (scrP_of hok h0)) (c_ScriptText s hok h0 (scrP_of hok h0))
  · exact key _ _ (c_ShowNo s hok h0) (c_ScriptTextNo s hok h0)
/-- An array of texts that reads as such data holds just these. -/
theorem cells_of_strs {H : Type} {enc : TypeId × Value → H} {P : Program} {w : World} {base : Nat} {sp : Nat → Bool} {held : Bool} {fuel : Nat} {t e : TypeId} {n : Nat} {cs : List Value} {zs : List (List UInt8)} {p : List MemPlace}
    (ht : P.underlying t = some (.array n e)) (he : P.underlying e = some .string) (hce : P.cellsOf e = 1) (hct : P.cellsOf t = n)
    (h : DataW.trod enc P w base sp held fuel t cs = some (.agg (zs.map fun z => .lit (.string z)), p)) : cs = zs.map fun z => Value.string ⟨z.toArray⟩ := by
  obtain ⟨xs, m, rfl, hx, hl, hn, hel⟩ := DataW.trod_array ht h
  rw [hct] at hl
  have hxs : xs.map (·.1) = zs.map fun z => (DataW.lit (.string z) : DataW H) := by
    have := congrArg Prod.fst hx
    simpa using this.symm
  have hzl : zs.length = n := by
    have := congrArg List.length hxs
    simp at this
    omega
  apply List.ext_getElem?
  intro i
  by_cases hi : i < n
  · have hf := hel i hi
    rw [hce, Nat.mul_one] at hf
    have hxi : xs[i]? = some xs[i] := List.getElem?_eq_getElem (by omega)
    rw [hxi] at hf
    obtain ⟨b, hc, hxe, _⟩ := DataW.trod_string he hf
    have h1 : cs[i]? = some (.string b) := by
      have := congrArg (·[0]?) hc
      simpa [List.getElem?_take, List.getElem?_drop] using this
    have h2 : (xs.map (·.1))[i]? = some (DataW.lit (.string b.data.toList) : DataW H) := by rw [List.getElem?_map, hxi, hxe]; rfl
    rw [hxs] at h2
    simp only [List.getElem?_map, Option.map_eq_some_iff, DataW.lit.injEq, Lit.string.injEq] at h2
    obtain ⟨z', hz', e2⟩ := h2
    rw [h1, List.getElem?_map, hz', e2]
    rfl
  · rw [List.getElem?_eq_none (by omega), List.getElem?_eq_none (by simp; omega)]
theorem heap_of_var {P : Program} {w : World} {name : String} {g : Nat} {cs : Array Value} (hg : P.globalNamed name = some g) (hv : w.var? P name = some cs) : ∃ t fz, w.heap[g]? = some (.cells cs t fz) := by
  unfold World.var? at hv
  rw [hg] at hv
  simp only [Option.bind_some] at hv
  split at hv
  · rename_i c t fz h; injection hv with hv; subst hv; exact ⟨t, fz, h⟩
  · cases hv
/-- What the card lists gives what the walks ask. -/
theorem gv_of_laid {W : World} (h : laidMetH Tryd.prog Rows.textShowsRow.laid W) : GVok (fun k => k < W.heap.size) W := by
  rw [MakeChecks.laidMetH_plain _ _ _ (by kernel_rfl)] at h
  obtain ⟨ps, ⟨_, _, _, _, _, _, _, _, _, _, ⟨_, _, _, _, _, _, _, _, _, _, ⟨g2, t2, cs2, f2, p2, q2, hg2, ht2, hv2, hd2, ⟨g1, t1, cs1, f1, p1, q1, hg1, ht1, hv1, hd1, ⟨g0, t0, cs0, f0, p0, q0, hg0, ht0, hv0, hd0, _, _⟩, _⟩, _⟩, _⟩, _⟩, _, _⟩ := h
  obtain rfl : g0 = 0 := Option.some.inj (hg0.symm.trans (by kernel_rfl))
  obtain rfl : g1 = 1 := Option.some.inj (hg1.symm.trans (by kernel_rfl))
  obtain rfl : g2 = 2 := Option.some.inj (hg2.symm.trans (by kernel_rfl))
  obtain rfl : t0 = 79 := Option.some.inj (ht0.symm.trans (by kernel_rfl))
  obtain rfl : t1 = 80 := Option.some.inj (ht1.symm.trans (by kernel_rfl))
  obtain rfl : t2 = 120 := Option.some.inj (ht2.symm.trans (by kernel_rfl))
  have c0 := cells_of_strs (zs := [[], [117, 115, 101], [100, 101, 102]]) Tryd.underlying79 Tryd.underlying9 (by kernel_rfl) (by kernel_rfl) hd0
  have c1 := cells_of_strs (zs := [[], limB 1, limB 2, limB 3, limB 4, limB 5]) Tryd.underlying80 Tryd.underlying9 (by kernel_rfl) (by kernel_rfl) hd1
  have c2 := Lib.cells_of_tab (k := .u64) (zs := Lib.pow10Tab) Tryd.underlying120 Tryd.underlying99 (by kernel_rfl) (by kernel_rfl) hd2
  obtain ⟨u0, z0, k0⟩ := heap_of_var hg0 hv0
  obtain ⟨u1, z1, k1⟩ := heap_of_var hg1 hv1
  obtain ⟨u2, z2, k2⟩ := heap_of_var hg2 hv2
  have a0 := Array.toArray_toList (xs := cs0)
  have a1 := Array.toArray_toList (xs := cs1)
  have a2 := Array.toArray_toList (xs := cs2)
  rw [c0] at a0
  rw [c1] at a1
  rw [c2] at a2
  intro g cs hg
  have hlt : ∀ {g : Nat} {o : Obj}, W.heap[g]? = some o → g < W.heap.size := fun h => (Array.getElem?_eq_some_iff.1 h).1
  unfold GV at hg
  rw [look_cons] at hg
  split at hg
  · rename_i e; subst e; injection hg with hg; subst hg
    exact ⟨hlt k0, hlt k0, u0, z0, by rw [k0, ← a0]; rfl⟩
  rw [look_cons] at hg
  split at hg
  · rename_i e; subst e; injection hg with hg; subst hg
    exact ⟨hlt k1, hlt k1, u1, z1, by rw [k1, ← a1]; rfl⟩
  rw [look_cons] at hg
  split at hg
  · rename_i e; subst e; injection hg with hg; subst hg
    exact ⟨hlt k2, hlt k2, u2, z2, by rw [k2, ← a2]; rfl⟩
  cases hg
/-- The door's own heap meets the condition. -/
theorem door_met (os : Os) (args : Array Value) : laidMetH Tryd.prog Rows.textShowsRow.laid ((World.doorLaid Tryd.prog 34 os).forCall (fun _ _ => 0) ⟨#[], args, []⟩).memory :=
  laidMetH_of_parts3 (fuel := 8) (laidMet_of_run' 8 (by kernel_rfl) (by kernel_rfl)) (by kernel_rfl) (by kernel_rfl)
set_option maxRecDepth 100000 in
theorem calls {H : Type} {enc : TypeId × Value → H} (w : World) (hgv : GVok (fun k => k < w.heap.size) w) {d0 : DataW H}
    (hw : (DataW.weightsEach Tryd.prog [30] [d0]).all (· ≤ reachBytes) = true)
    (v0 : Value) {r0 : Reach} {b0 : Nat} {p0 : List MemPlace} {s0 : Nat → Bool} {e0 : Bool} (ok0 : Value.okWide Tryd.prog w r0 b0 30 v0) (h0 : DataW.Trod enc Tryd.prog w 0 s0 e0 30 v0 d0 p0)
    : Calls Tryd.prog 3 #[v0] w fun e w' => e = .returned (.bool true) ∧ Below w.heap.size w w' := by
  obtain ⟨_, ⟨s, rfl, sk⟩, m0⟩ := open_value o_scr hw 0 rfl rfl h0
  obtain ⟨c0, q0, _⟩ := okWide_struct Tryd.underlying30 ok0
  exact law_calls (c_l_TextShows s sk) w [v0] rfl (hgv := hgv) fun j y hy => by
    match j, hy with
    | 0, hy => simp at hy; subst hy; exact rep_agg_of q0 m0

set_option maxRecDepth 100000 in
theorem lifted (os : Os) (started : os.Started) (H : Type) (enc : TypeId × Value → H) :
    ReturnsInHanded {} Tryd.checked os 3 .any (fun w args => (Rows.textShowsSpec.pre enc Tryd.prog Tryd.f3 Rows.textShowsRow.domain false w args ∧ laidMetH Tryd.prog Rows.textShowsRow.laid w) ∧ sizedMet enc Tryd.prog Tryd.f3 (OpenSpec.ofChange Rows.textShowsSpec) false w args)
      (Rows.textShowsSpec.post enc Tryd.prog Tryd.f3 false true false false) := by
  refine returnsInHanded_of_change_and (C := Tryd.checked) (X := fun w _ => laidMetH Tryd.prog Rows.textShowsRow.laid w) (fun _ _ _ hh h => h.of_heap hh) own started (by kernel_rfl) Tryd.func3
    (ChangeSpec.witness_shaped (enc := enc) (C := Tryd.checked) (os := os) (X := fun w _ => laidMetH Tryd.prog Rows.textShowsRow.laid w) false (World.doorLaid Tryd.prog 34 os) #[.agg #[.int .i64 0, .int .i64 0, .slice none 0 0, .slice none 0 0, .int .i64 0, .int .i64 0, .slice none 0 0]] 8 rfl (World.shaped_of_RefB (by kernel_rfl) (by kernel_rfl)) (by kernel_rfl) (by kernel_rfl) (by kernel_rfl) (door_met os _)) ?_
  intro W base args ds gs before hval0 hW hcnd hwt hL hsz0
  have hval : ∀ (j : Nat) t v, Tryd.f3.params[j]? = some t → args[j]? = some v → Value.okWide Tryd.prog W .any base t v := hval0
  have hW' := hW
  obtain ⟨p, q, hA0, hV, rfl, hfz, hnd⟩ := hW
  have hA : DataW.TrodAll enc Tryd.prog W 0 (fun _ => true) true Tryd.f3.params.toList args.toList ds p := hA0
  rw [Tryd.params3] at hA hval
  obtain ⟨v0, vs0, d0, ds0, p0, q0, hargs, rfl, rfl, h0, r0⟩ := trodAll_cons hA
  obtain ⟨rfl, rfl, rfl⟩ := trodAll_nil r0
  obtain rfl : args = #[v0] := by cases args; simp_all
  obtain ⟨rfl, rfl⟩ := trodVars_none hV
  have lt0 : ∀ x ∈ p0, x.block < W.heap.size := by obtain ⟨m, hm⟩ := h0; exact DataW.trod_lt m _ _ _ hm
  have ok0 := hval 0 30 v0 rfl rfl
  clear hA0 hval0
  have hw2 : (DataW.weightsEach Tryd.prog [30] [d0]).all (· ≤ reachBytes) = true := by
    have h := hwt
    rw [Tryd.params3] at h
    exact h
  refine (calls W (gv_of_laid hL) hw2 _ ok0 h0).mono fun e W' ⟨he, bel⟩ => ?_
  subst he
  exact ⟨_, rfl, _, _, _, [], _, [], hW', trodAll_mk1 (shut_bool Tryd.underlying4 _), (trodAll_cons_mk (Below.trod laidOut (by kernel_rfl) (of_decide_eq_true (by kernel_rfl)) h0 bel lt0) trodAll_mk0), rfl, bel.frame _, fun h => by cases h⟩
theorem over : Rows.textShowsRow.holds Tryd.pinned (OpenSpec.ofChange Rows.textShowsSpec) :=
  OpenClaim.holds_of_wide 3 Tryd.f3 rfl rfl rfl rfl rfl rfl rfl ⟨rfl, rfl, rfl, rfl, rfl⟩ rfl rfl rfl rfl rfl (by kernel_rfl) Tryd.func3 (by kernel_rfl)
    (of_decide_eq_true (by kernel_rfl)) (by unfold Func.isWrapper; first | (rw [if_pos (by decide +kernel)]; kernel_rfl) | (rw [if_neg (by decide +kernel)]; exact ⟨rfl, rfl⟩))
    (fun os started H enc _ => lifted os started H enc)
theorem proved : Rows.TextShowsCardSaid :=
  Claim7.holds_tied_plain_at .later [] [.data, .data, .data, .widerDeep, .widerDeep] true Rows.textShowsCard.stood.harness Rows.textShowsCard.stood.looks
    over (fun _ h => by cases h) (by kernel_rfl) (fun _ h => by cases h) textShows_row_tie rfl ⟨rfl, rfl⟩ (by kernel_rfl) rfl
    (fun f fn hf hfn => by
      obtain rfl : f = 3 := Option.some.inj (hf.symm.trans (by kernel_rfl))
      obtain rfl : fn = Tryd.f3 := (Option.some.inj (Tryd.func3.symm.trans hfn)).symm
      exact ⟨by kernel_rfl, fun j t ht => by
        rw [Tryd.params3] at ht
        have h3 : t = 30 := by
          rcases j with _ | j
          · simpa using ht.symm
          · simp at ht
        subst h3
        exact (show Tryd.prog.wantsStandIn 30 = false by kernel_rfl)⟩)
    (by kernel_rfl)
#print axioms proved
end Go.Proofs.YtgkdmdfjfepcdaaDoor.textShows
