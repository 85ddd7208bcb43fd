/- Contracts of wire.Check and of the document's ScriptFault. Condition: what the script's slices may weigh. -/
import Derived.Test.YtgkdmdfjfepcdaaDoorFlw
set_option linter.unusedVariables false
set_option linter.unusedSimpArgs false
/- Contracts of wire.Check and of the document's ScriptFault. Condition: what the script's slices may weigh. -/
namespace Go.Proofs.YtgkdmdfjfepcdaaDoor
open Go Go.Abs Go.RowKit Go.Abs.Gra

structure Scr where
  Machine : Mch
  Func : Fun
  Seed : Int
  Steps : Int
  Junk : List Int
@[reducible] def Scr.cells (s : Scr) : List AV := [.i64 s.Machine.r0, .i64 s.Machine.r1, ints s.Func.Values, roL 3 Blk.cells s.Func.Blocks, .i64 s.Seed, .i64 s.Steps, ints s.Junk]
@[reducible] def Scr.av (s : Scr) : AV := .agg s.cells
def Scr.ok (s : Scr) : Prop := Mch.ok s.Machine ∧ Fun.ok s.Func ∧ In64 s.Seed ∧ In64 s.Steps ∧ LOk 8 In64 s.Junk
theorem o_scr : OpensC Tryd.prog 30 fun avs => ∃ s : Scr, avs = s.cells ∧ Scr.ok s :=
  (opens_fields Tryd.underlying30 (Ss := [fun avs => ∃ m : Mch, avs = m.cells ∧ Mch.ok m, fun avs => ∃ o : Fun, avs = o.cells ∧ Fun.ok o, SI, SI, SL 8 1 intC In64]) (by kernel_rfl) ⟨o_mch, o_fun, o_int, o_int, o_ints, trivial⟩).mono (by
    rintro avs ⟨_, _, ⟨a, rfl, wa⟩, ⟨_, _, ⟨b, rfl, wb⟩, ⟨_, _, ⟨c, rfl, wc⟩, ⟨_, _, ⟨d, rfl, wd⟩, ⟨_, _, ⟨e, rfl, we⟩, rfl, rfl⟩, rfl⟩, rfl⟩, rfl⟩, rfl⟩
    exact ⟨⟨a, b, c, d, e⟩, rfl, wa, wb, wc, wd, we⟩)
def jnkG (l : List Int) (j : Nat) : Int := if l.getD j default < 0 ∨ 1073741824 < l.getD j default then 2 else 0
noncomputable def scrF (s : Scr) : Int :=
  if flwF s.Func s.Machine ≠ 0 then flwF s.Func s.Machine
  else if s.Seed < 0 ∨ 1073741824 < s.Seed ∨ s.Steps < 0 ∨ 5000 < s.Steps then 2
  else if 64 < s.Junk.length then 1
  else firstF (jnkG s.Junk) s.Junk.length
theorem scrF_1 {s : Scr} (h : flwF s.Func s.Machine ≠ 0) : scrF s = flwF s.Func s.Machine := if_pos h
theorem scrF_2 {s : Scr} (h : flwF s.Func s.Machine = 0) (h2 : s.Seed < 0 ∨ 1073741824 < s.Seed ∨ s.Steps < 0 ∨ 5000 < s.Steps) : scrF s = 2 := by unfold scrF; rw [if_neg (fun z => z h), if_pos h2]
theorem scrF_3 {s : Scr} (h : flwF s.Func s.Machine = 0) (h2 : ¬ (s.Seed < 0 ∨ 1073741824 < s.Seed ∨ s.Steps < 0 ∨ 5000 < s.Steps)) (h3 : 64 < s.Junk.length) : scrF s = 1 := by unfold scrF; rw [if_neg (fun z => z h), if_neg h2, if_pos h3]
theorem scrF_4 {s : Scr} (h : flwF s.Func s.Machine = 0) (h2 : ¬ (s.Seed < 0 ∨ 1073741824 < s.Seed ∨ s.Steps < 0 ∨ 5000 < s.Steps)) (h3 : ¬ 64 < s.Junk.length) {v : Int} (h4 : firstF (jnkG s.Junk) s.Junk.length = v) : scrF s = v := by unfold scrF; rw [if_neg (fun z => z h), if_neg h2, if_neg h3, h4]
set_option maxHeartbeats 1000000 in
theorem c_WireCheck (s : Scr) (hok : Scr.ok s) : ACallIs B.P 6 [s.av] (.i64 (scrF s)) := by
  refine ACallIs.enter B _ _ Tryd.func6 rfl rfl Tryd.ntmps6 Tryd.results6 rfl fun hreal => ?_
  clear hreal
  repeat (first | refine AWp.seq ?_ | refine AWp.block ?_ | refine AWp.skip ?_)
  refine AWp.region ?_
  intro _
  refine AWp.freezeObj 1 rfl rfl ?_
  repeat (first | refine AWp.seq ?_ | refine AWp.block ?_ | refine AWp.skip ?_)
  refine AWp.region ?_
  refine CallX.pure (c_FlowCheck s.Func s.Machine hok.2.1) rfl rfl rfl ?_
  intro _
  repeat (first | refine AWp.seq ?_ | refine AWp.block ?_ | refine AWp.skip ?_)
  refine AWp.region ?_
  intro _
  repeat (first | refine AWp.seq ?_ | refine AWp.block ?_ | refine AWp.skip ?_)
  refine AWp.cond (And.intro (fun h => ?_) (fun h => ?_))
  · repeat (first | refine AWp.seq ?_ | refine AWp.block ?_ | refine AWp.skip ?_)
    refine AWp.region ?_
    intro _
    refine AWp.ret ⟨Or.inl rfl, rfl, ?_⟩
    intro _
    exact tupI (scrF_1 (by simpa using h)).symm
  have h0 : flwF s.Func s.Machine = 0 := by
    have h : (flwF s.Func s.Machine != 0) = false := h
    simpa using h
  repeat (first | refine AWp.seq ?_ | refine AWp.block ?_ | refine AWp.skip ?_)
  refine AWp.region ?_
  repeat' refine And.intro ?_ ?_
  all_goals first | exact fun h => h | exact gT | exact gF | exact fun h => h | skip
  intro _
  repeat (first | refine AWp.seq ?_ | refine AWp.block ?_ | refine AWp.skip ?_)
  refine AWp.cond (And.intro (fun h2 => ?_) (fun h2 => ?_))
  · repeat (first | refine AWp.seq ?_ | refine AWp.block ?_ | refine AWp.skip ?_)
    refine AWp.region ?_
    intro _
    refine AWp.ret ⟨Or.inl rfl, rfl, ?_⟩
    intro _
    refine tupI (scrF_2 h0 ?_).symm
    (try simp only [bif_if] at h2); grind
  have h2' : ¬ (s.Seed < 0 ∨ 1073741824 < s.Seed ∨ s.Steps < 0 ∨ 5000 < s.Steps) := by (try simp only [bif_if] at h2); grind
  repeat (first | refine AWp.seq ?_ | refine AWp.block ?_ | refine AWp.skip ?_)
  refine AWp.region ?_
  intro _
  repeat (first | refine AWp.seq ?_ | refine AWp.block ?_ | refine AWp.skip ?_)
  refine AWp.cond (And.intro (fun h3 => ?_) (fun h3 => ?_))
  · repeat (first | refine AWp.seq ?_ | refine AWp.block ?_ | refine AWp.skip ?_)
    refine AWp.region ?_
    intro _
    refine AWp.ret ⟨Or.inl rfl, rfl, ?_⟩
    intro _
    exact tupI (scrF_3 h0 h2' (by have := of_decide_eq_true h3; omega)).symm
  have h3' : ¬ 64 < s.Junk.length := by have := of_decide_eq_false h3; omega
  have hjl : s.Junk.length ≤ maxLen := by unfold maxLen; omega
  repeat (first | refine AWp.seq ?_ | refine AWp.block ?_ | refine AWp.skip ?_)
  refine AWp.region ?_
  intro _
  repeat (first | refine AWp.seq ?_ | refine AWp.block ?_ | refine AWp.skip ?_)
  refine AWp.loop (fun k : Nat => ⟨[(37, ints s.Junk), (38, .i64 s.Junk.length), (39, .i64 k)], []⟩) (fun k => k ≤ s.Junk.length ∧ ∀ j, j < k → jnkG s.Junk j = 0) (fun k => s.Junk.length - k) 0 ⟨Nat.zero_le _, fun j hj => absurd hj (by omega)⟩ ?_ ?_
  · repeat' (first | exact rfl | exact trivial | refine And.intro ?_ ?_)
  rintro k ⟨hk, hg⟩
  repeat (first | refine AWp.seq ?_ | refine AWp.block ?_ | refine AWp.skip ?_)
  refine AWp.region ?_
  intro _
  repeat (first | refine AWp.seq ?_ | refine AWp.block ?_ | refine AWp.skip ?_)
  refine AWp.cond (And.intro (fun h4 => ?_) (fun h4 => ?_))
  · have hk' : k < s.Junk.length := Int.ofNat_lt.1 (of_decide_eq_true h4)
    repeat (first | refine AWp.seq ?_ | refine AWp.block ?_ | refine AWp.skip ?_)
    refine AWp.region ?_
    refine And.intro (fun _ => And.intro (Int.natCast_nonneg _) (Int.ofNat_lt.2 hk')) ?_
    intro _
    repeat (first | refine AWp.seq ?_ | refine AWp.block ?_ | refine AWp.skip ?_)
    refine AWp.region ?_
    repeat' refine And.intro ?_ ?_
    all_goals first | exact fun h => h | exact gT | exact gF | exact fun h => h | skip
    intro _
    repeat (first | refine AWp.seq ?_ | refine AWp.block ?_ | refine AWp.skip ?_)
    refine AWp.cond (And.intro (fun h5 => ?_) (fun h5 => ?_))
    · repeat (first | refine AWp.seq ?_ | refine AWp.block ?_ | refine AWp.skip ?_)
      refine AWp.region ?_
      intro _
      refine AWp.ret ⟨Or.inl rfl, rfl, ?_⟩
      intro _
      have e : jnkG s.Junk k = 2 := by clear hg; unfold jnkG; (try simp only [bif_if, Int.toNat_natCast] at h5); grind
      exact tupI (scrF_4 h0 h2' h3' ((firstF_hit (k := k) hk' hg (by rw [e]; decide)).trans e)).symm
    · repeat (first | refine AWp.seq ?_ | refine AWp.block ?_ | refine AWp.skip ?_)
      refine AWp.region ?_
      intro _
      exact round_end (k + 1) ⟨hk', upto hg (by clear hg; unfold jnkG; (try simp only [bif_if, Int.toNat_natCast] at h5); grind)⟩ (by repeat' (first | exact rfl | exact trivial | exact congrArg (fun z => some (AV.i64 z)) (wrap_succ hk' hjl) | refine And.intro ?_ ?_)) (by omega)
  have hk3 : ¬ (k : Int) < s.Junk.length := of_decide_eq_false h4
  refine AWp.exit ?_
  repeat (first | refine AWp.seq ?_ | refine AWp.block ?_ | refine AWp.skip ?_)
  refine AWp.region ?_
  intro _
  refine AWp.ret ⟨Or.inl rfl, rfl, ?_⟩
  intro _
  exact tupI (scrF_4 h0 h2' h3' (firstF_none (fun j hj => hg j (by omega)))).symm
set_option maxHeartbeats 1000000 in
theorem c_ScriptFault (s : Scr) (hok : Scr.ok s) : ACallIs B.P 13 [s.av] (.i64 (scrF s)) := by
  refine ACallIs.enter B _ _ Tryd.func13 rfl rfl Tryd.ntmps13 Tryd.results13 rfl fun hreal => ?_
  clear hreal
  repeat (first | refine AWp.seq ?_ | refine AWp.block ?_ | refine AWp.skip ?_)
  refine AWp.region ?_
  intro _
  refine AWp.freezeObj 1 rfl rfl ?_
  repeat (first | refine AWp.seq ?_ | refine AWp.block ?_ | refine AWp.skip ?_)
  refine AWp.region ?_
  refine CallX.pure (c_FuncFault s.Func s.Machine hok.2.1) rfl rfl rfl ?_
  intro _
  repeat (first | refine AWp.seq ?_ | refine AWp.block ?_ | refine AWp.skip ?_)
  refine AWp.region ?_
  intro _
  repeat (first | refine AWp.seq ?_ | refine AWp.block ?_ | refine AWp.skip ?_)
  refine AWp.cond (And.intro (fun h => ?_) (fun h => ?_))
  · repeat (first | refine AWp.seq ?_ | refine AWp.block ?_ | refine AWp.skip ?_)
    refine AWp.region ?_
    intro _
    refine AWp.ret ⟨Or.inl rfl, rfl, ?_⟩
    intro _
    exact tupI (scrF_1 (by simpa using h)).symm
  have h0 : flwF s.Func s.Machine = 0 := by
    have h : (flwF s.Func s.Machine != 0) = false := h
    simpa using h
  repeat (first | refine AWp.seq ?_ | refine AWp.block ?_ | refine AWp.skip ?_)
  refine AWp.region ?_
  refine CallX.pure (c_In s.Seed 0 1073741824) rfl rfl rfl ?_
  repeat' (first | refine And.intro ?_ ?_ | refine CallK.intro (fun _ => c_In s.Steps 0 5000) ?_)
  all_goals first | exact fun h => h | exact gT | exact gF | skip
  intro _
  repeat (first | refine AWp.seq ?_ | refine AWp.block ?_ | refine AWp.skip ?_)
  refine AWp.cond (And.intro (fun h2 => ?_) (fun h2 => ?_))
  · repeat (first | refine AWp.seq ?_ | refine AWp.block ?_ | refine AWp.skip ?_)
    refine AWp.region ?_
    intro _
    refine AWp.ret ⟨Or.inl rfl, rfl, ?_⟩
    intro _
    refine tupI (scrF_2 h0 ?_).symm
    (try simp only [bif_if, inB] at h2); grind
  have h2' : ¬ (s.Seed < 0 ∨ 1073741824 < s.Seed ∨ s.Steps < 0 ∨ 5000 < s.Steps) := by (try simp only [bif_if, inB] at h2); grind
  repeat (first | refine AWp.seq ?_ | refine AWp.block ?_ | refine AWp.skip ?_)
  refine AWp.region ?_
  intro _
  repeat (first | refine AWp.seq ?_ | refine AWp.block ?_ | refine AWp.skip ?_)
  refine AWp.cond (And.intro (fun h3 => ?_) (fun h3 => ?_))
  · repeat (first | refine AWp.seq ?_ | refine AWp.block ?_ | refine AWp.skip ?_)
    refine AWp.region ?_
    intro _
    refine AWp.ret ⟨Or.inl rfl, rfl, ?_⟩
    intro _
    exact tupI (scrF_3 h0 h2' (by have := of_decide_eq_true h3; omega)).symm
  have h3' : ¬ 64 < s.Junk.length := by have := of_decide_eq_false h3; omega
  have hjl : s.Junk.length ≤ maxLen := by unfold maxLen; omega
  repeat (first | refine AWp.seq ?_ | refine AWp.block ?_ | refine AWp.skip ?_)
  refine AWp.region ?_
  intro _
  repeat (first | refine AWp.seq ?_ | refine AWp.block ?_ | refine AWp.skip ?_)
  refine AWp.loop (fun k : Nat => ⟨[(1, .ptr s.cells), (4, .i64 k)], []⟩) (fun k => k ≤ s.Junk.length ∧ ∀ j, j < k → jnkG s.Junk j = 0) (fun k => s.Junk.length - k) 0 ⟨Nat.zero_le _, fun j hj => absurd hj (by omega)⟩ ?_ ?_
  · repeat' (first | exact rfl | exact trivial | refine And.intro ?_ ?_)
  rintro k ⟨hk, hg⟩
  repeat (first | refine AWp.seq ?_ | refine AWp.block ?_ | refine AWp.skip ?_)
  refine AWp.region ?_
  intro _
  repeat (first | refine AWp.seq ?_ | refine AWp.block ?_ | refine AWp.skip ?_)
  refine AWp.cond (And.intro (fun h4 => ?_) (fun h4 => ?_))
  · have hk' : k < s.Junk.length := Int.ofNat_lt.1 (of_decide_eq_true h4)
    repeat (first | refine AWp.seq ?_ | refine AWp.block ?_ | refine AWp.skip ?_)
    refine AWp.region ?_
    refine And.intro (fun _ => And.intro (Int.natCast_nonneg _) (Int.ofNat_lt.2 hk')) ?_
    refine CallX.pure (c_In (s.Junk.getD k default) 0 1073741824) rfl rfl rfl ?_
    intro _
    repeat (first | refine AWp.seq ?_ | refine AWp.block ?_ | refine AWp.skip ?_)
    refine AWp.cond (And.intro (fun h5 => ?_) (fun h5 => ?_))
    · have h5 : (!inB (s.Junk.getD k default) 0 1073741824) = true := h5
      repeat (first | refine AWp.seq ?_ | refine AWp.block ?_ | refine AWp.skip ?_)
      refine AWp.region ?_
      intro _
      refine AWp.ret ⟨Or.inl rfl, rfl, ?_⟩
      intro _
      have e : jnkG s.Junk k = 2 := by clear hg; unfold jnkG; unfold inB at h5; grind
      exact tupI (scrF_4 h0 h2' h3' ((firstF_hit (k := k) hk' hg (by rw [e]; decide)).trans e)).symm
    · have h5 : (!inB (s.Junk.getD k default) 0 1073741824) = false := h5
      repeat (first | refine AWp.seq ?_ | refine AWp.block ?_ | refine AWp.skip ?_)
      refine AWp.region ?_
      intro _
      exact round_end (k + 1) ⟨hk', upto hg (by clear hg; unfold jnkG; unfold inB at h5; grind)⟩ (by repeat' (first | exact rfl | exact trivial | exact congrArg (fun z => some (AV.i64 z)) (wrap_succ hk' hjl) | refine And.intro ?_ ?_)) (by omega)
  have hk3 : ¬ (k : Int) < s.Junk.length := of_decide_eq_false h4
  refine AWp.exit ?_
  repeat (first | refine AWp.seq ?_ | refine AWp.block ?_ | refine AWp.skip ?_)
  refine AWp.region ?_
  intro _
  refine AWp.ret ⟨Or.inl rfl, rfl, ?_⟩
  intro _
  exact tupI (scrF_4 h0 h2' h3' (firstF_none (fun j hj => hg j (by omega)))).symm
end Go.Proofs.YtgkdmdfjfepcdaaDoor
