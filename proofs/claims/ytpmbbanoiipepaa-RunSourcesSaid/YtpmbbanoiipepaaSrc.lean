/- run.Source and the document's SourceRun. Condition: none for what is refused; else a checked function. -/
import Derived.Test.YtpmbbanoiipepaaRun
set_option linter.unusedVariables false
set_option linter.unusedSimpArgs false
/- Contract of run.Source. Condition: a checked function; steps within bounds. -/
namespace Go.Proofs.Ytpmbbanoiipepaa
open Go Go.Abs Go.RowKit Go.Abs.Gra

theorem par_rng {f : Fun} (h : Chkd f) {k q : Nat} (hk : k < f.Blocks.length) (hq : q < (f.Blocks.getD k default).Params.length) : 0 ≤ (f.Blocks.getD k default).Params.getD q default ∧ (f.Blocks.getD k default).Params.getD q default < f.Values.length :=
  h.rng (ev_param hk (getD_mem hq))
set_option maxHeartbeats 4000000 in
theorem c_Source (f : Fun) (m : Mch) (hok : Fun.ok f) (h0 : flwF f m = 0) (seed : Int) (n : Nat) (hn : n ≤ 5000) : ACallIs B.P 21 [f.av, m.av, .i64 seed, .i64 n] (.tup [evtV (srcF f seed n 0 0 (fun _ => 0) []), .i64 0]) := by
  have hc := c_FlowCheck f m hok
  rw [h0] at hc
  have hC := chkd_of (show chkF f m = 0 from Classical.byContradiction fun hn => by rw [flwF_1 hn] at h0; exact hn h0)
  have hz := hC.e.siz
  have hb := hz.blocks
  have hvl := hz.values
  refine ACallIs.enter B _ _ Try.func21 rfl rfl Try.ntmps21 Try.results21 rfl fun hreal => ?_
  clear hreal
  repeat (first | refine AWp.seq ?_ | refine AWp.block ?_ | refine AWp.skip ?_)
  refine AWp.region ?_
  intro _
  refine AWp.freezeObj 4 rfl rfl ?_
  refine AWp.freezeObj 5 rfl rfl ?_
  repeat (first | refine AWp.seq ?_ | refine AWp.block ?_ | refine AWp.skip ?_)
  refine AWp.region ?_
  refine CallX.pure hc rfl rfl rfl ?_
  intro _
  repeat (first | refine AWp.seq ?_ | refine AWp.block ?_ | refine AWp.skip ?_)
  refine AWp.region ?_
  intro _
  repeat (first | refine AWp.seq ?_ | refine AWp.block ?_ | refine AWp.skip ?_)
  refine AWp.cond (And.intro (fun h1 => ?_) (fun h1 => ?_))
  · cases h1
  repeat (first | refine AWp.seq ?_ | refine AWp.block ?_ | refine AWp.skip ?_)
  refine AWp.region ?_
  repeat' refine And.intro ?_ ?_
  all_goals first | exact fun h => h | exact gT | exact gF | exact fun h => h | skip
  intro _
  repeat (first | refine AWp.seq ?_ | refine AWp.block ?_ | refine AWp.skip ?_)
  refine AWp.cond (And.intro (fun h2 => ?_) (fun h2 => ?_))
  · exfalso
    have h2 : (bif decide ((n : Int) < 0) then true else decide ((n : Int) > 5000)) = true := h2
    rw [decide_eq_false (by omega), decide_eq_false (by omega)] at h2
    cases h2
  repeat (first | refine AWp.seq ?_ | refine AWp.block ?_ | refine AWp.skip ?_)
  refine AWp.quietFirst (.q 0 (.q 1 (.q 2 (.q 3 (.q 4 (.q 5 (.c 6 false (.c 7 true (.c 8 true (.q 9 .fin) .no) .no) .no))))))) [0, 1, 2, 3, 4, 5, 9] [] mixed (by kernel_rfl) ?_
  refine And.intro (And.intro rfl (And.intro (Int.natCast_nonneg _) (And.intro (by simp only [Int.toNat_natCast]; omega) ?_))) trivial
  repeat' (first | exact trivial | refine And.intro ?_ ?_)
  intro _
  repeat (first | refine AWp.seq ?_ | refine AWp.block ?_ | refine AWp.skip ?_)
  refine AWp.region ?_
  intro _
  refine AWp.via (newρ 61) ⟨[(4, .ptr f.cells), (11, .obj 36 0), (12, .i64 (0 : Nat))], [(36, rnrC f seed n 34 61 0), (34, rowG f.Values.length (fun _ => 0)), (61, rowE [])]⟩ ?_ ?_
  · refine ⟨?_, ?_, newρ_inj 61 _, newρ_old (by decide) _⟩
    · repeat' (first | exact rfl | exact trivial | refine And.intro ?_ ?_)
    · refine And.intro (And.intro ⟨_, ⟨_, rfl, rfl, trivial⟩, rfl⟩ ?_) (And.intro (And.intro ⟨_, ⟨_, rfl, rfl, trivial⟩, Or.inl ⟨_, rfl, fun i hi => rfl⟩⟩ ?_) (And.intro (And.intro ⟨_, _, _, rfl⟩ ?_) trivial))
      all_goals repeat' (first | exact rfl | exact trivial | refine And.intro ?_ ?_)
  repeat (first | refine AWp.seq ?_ | refine AWp.block ?_ | refine AWp.skip ?_)
  refine AWp.loop (fun s : (Nat × Nat) × ((Nat → Int) × List Evt) => ⟨[(4, .ptr f.cells), (11, .obj 36 0), (12, .i64 s.1.2)], [(36, rnrC f seed s.1.1 34 61 s.2.2.length), (34, rowG f.Values.length s.2.1), (61, rowE s.2.2)]⟩) (fun s => s.1.2 < f.Blocks.length ∧ s.1.1 ≤ 5000 ∧ s.2.2.length + s.1.1 ≤ 5000 ∧ srcF f seed s.1.1 s.1.2 0 s.2.1 s.2.2 = srcF f seed n 0 0 (fun _ => 0) []) (fun s => s.1.1) ((n, 0), (fun _ => 0, [])) ⟨by show 0 < f.Blocks.length; omega, hn, by show 0 + n ≤ 5000; omega, rfl⟩ ?_ ?_
  · refine And.intro ?_ (And.intro rfl (And.intro ?_ (And.intro ⟨_, _, rfl, rfl, fun i hi => rfl⟩ (And.intro trivial (And.intro ⟨_, _, rfl, rfl, fun i hi => absurd hi (Nat.not_lt_zero _)⟩ (And.intro trivial trivial))))))
    all_goals repeat' (first | exact rfl | exact trivial | refine And.intro ?_ ?_)
  rintro ⟨⟨k, b⟩, ⟨g, L⟩⟩ ⟨hb2, hk5, hLk, hR⟩
  simp only at hb2 hk5 hLk hR
  repeat (first | refine AWp.seq ?_ | refine AWp.block ?_ | refine AWp.skip ?_)
  refine AWp.region ?_
  refine CallX.lend (m_step f seed k g L) [(1001, 36), (1002, 34), (1003, 61)] rfl (And.intro rfl (And.intro rfl (And.intro rfl trivial))) rfl ?_
  intro _
  repeat (first | refine AWp.seq ?_ | refine AWp.block ?_ | refine AWp.skip ?_)
  refine AWp.cond (And.intro (fun h3 => ?_) (fun h3 => ?_))
  · have hk0 : k ≠ 0 := fun e => by subst e; exact absurd (of_decide_eq_true h3) (by decide)
    obtain ⟨k, rfl⟩ : ∃ t, k = t + 1 := ⟨k - 1, by omega⟩
    have hw : IntKind.i64.wrap (((k + 1 : Nat) : Int) - 1) = (k : Int) := by rw [wrap_in (by omega) (by omega)]; omega
    rw [hw] at *
    refine AWp.weaken (s' := ⟨[(4, .ptr f.cells), (11, .obj 36 0), (12, .i64 b)], [(36, rnrC f seed k 34 61 L.length), (34, rowG f.Values.length g), (61, rowE L)]⟩) ?_ ?_
    · refine And.intro ?_ (And.intro rfl (And.intro ?_ (And.intro ⟨_, _, rfl, rfl, fun i hi => rfl⟩ (And.intro trivial (And.intro ⟨_, _, rfl, rfl, fun i hi => rfl⟩ (And.intro trivial trivial))))))
      all_goals repeat' (first | exact rfl | exact trivial | refine And.intro ?_ ?_)
    have hil : (f.Blocks.getD b default).Instrs.length ≤ maxLen := by have := hz.instrs b hb2; unfold maxLen; omega
    repeat (first | refine AWp.seq ?_ | refine AWp.block ?_ | refine AWp.skip ?_)
    refine AWp.region ?_
    intro _
    repeat (first | refine AWp.seq ?_ | refine AWp.block ?_ | refine AWp.skip ?_)
    refine AWp.region ?_
    refine And.intro (fun _ => And.intro (Int.natCast_nonneg _) (Int.ofNat_lt.2 hb2)) ?_
    intro _
    repeat (first | refine AWp.seq ?_ | refine AWp.block ?_ | refine AWp.skip ?_)
    refine AWp.loop (fun s : (Nat × Int) × ((Nat → Int) × List Evt) × Nat => ⟨[(4, .ptr f.cells), (11, .obj 36 0), (12, .i64 b), (13, .i64 s.1.2), (45, .i64 (f.Blocks.getD b default).Instrs.length), (46, .i64 s.2.2)], [(36, rnrC f seed s.1.1 34 61 s.2.1.2.length), (34, rowG f.Values.length s.2.1.1), (61, rowE s.2.1.2)]⟩) (fun s => s.2.2 ≤ (f.Blocks.getD b default).Instrs.length ∧ s.1.1 ≤ k ∧ s.2.1.2.length + s.1.1 ≤ 5000 ∧ (s.2.2 = (f.Blocks.getD b default).Instrs.length → 0 < (f.Blocks.getD b default).Edges.length → 0 ≤ s.1.2 ∧ s.1.2 < (f.Blocks.getD b default).Edges.length) ∧ (if s.2.2 < (f.Blocks.getD b default).Instrs.length then srcF f seed s.1.1 b (s.2.2 + 1) s.2.1.1 s.2.1.2 else conF f seed s.1.1 b s.1.2 s.2.1.1 s.2.1.2) = srcF f seed n 0 0 (fun _ => 0) []) (fun s => (f.Blocks.getD b default).Instrs.length - s.2.2) ((k, 0), (g, L), 0) ⟨Nat.zero_le _, Nat.le_refl _, by show L.length + k ≤ 5000; omega, fun _ he => ⟨Int.le_refl _, by show (0 : Int) < _; omega⟩, by rw [← hR, srcF_in]⟩ ?_ ?_
    · refine And.intro ?_ (And.intro rfl (And.intro ?_ (And.intro ⟨_, _, rfl, rfl, fun i hi => rfl⟩ (And.intro trivial (And.intro ⟨_, _, rfl, rfl, fun i hi => rfl⟩ (And.intro trivial trivial))))))
      all_goals repeat' (first | exact rfl | exact trivial | refine And.intro ?_ ?_)
    rintro ⟨⟨k2, ed⟩, ⟨g2, L2⟩, j⟩ ⟨hj, hk2, hL2, hed, hR2⟩
    simp only at hj hk2 hL2 hed hR2
    repeat (first | refine AWp.seq ?_ | refine AWp.block ?_ | refine AWp.skip ?_)
    refine AWp.region ?_
    intro _
    repeat (first | refine AWp.seq ?_ | refine AWp.block ?_ | refine AWp.skip ?_)
    refine AWp.cond (And.intro (fun h4 => ?_) (fun h4 => ?_))
    · have hj' : j < (f.Blocks.getD b default).Instrs.length := Int.ofNat_lt.1 (of_decide_eq_true h4)
      rw [if_pos hj'] at hR2
      repeat (first | refine AWp.seq ?_ | refine AWp.block ?_ | refine AWp.skip ?_)
      refine AWp.region ?_
      intro _
      repeat (first | refine AWp.seq ?_ | refine AWp.block ?_ | refine AWp.skip ?_)
      refine AWp.region ?_
      refine CallX.lend (m_step f seed k2 g2 L2) [(1001, 36), (1002, 34), (1003, 61)] rfl (And.intro rfl (And.intro rfl (And.intro rfl trivial))) rfl ?_
      intro _
      repeat (first | refine AWp.seq ?_ | refine AWp.block ?_ | refine AWp.skip ?_)
      refine AWp.cond (And.intro (fun h5 => ?_) (fun h5 => ?_))
      · have hk0 : k2 = 0 := Classical.byContradiction fun hn => by
          have hw2 : IntKind.i64.wrap ((k2 : Int) - 1) = (k2 : Int) - 1 := wrap_in (by omega) (by omega)
          have h5 : (!decide (IntKind.i64.wrap ((k2 : Int) - 1) ≥ 0)) = true := h5
          rw [hw2, decide_eq_true (by omega)] at h5
          cases h5
        subst hk0
        rw [srcF_zero] at hR2
        rw [← hR2]
        refine AWp.freeze 61 (fun i => evtC (L2.getD i default)) rfl (fun i hi => rfl) ?_
        repeat (first | refine AWp.seq ?_ | refine AWp.block ?_ | refine AWp.skip ?_)
        refine AWp.region ?_
        intro _
        refine AWp.ret ⟨Or.inl rfl, rfl, ?_⟩
        intro _
        rfl
      · have hk0 : k2 ≠ 0 := fun e => by subst e; cases h5
        obtain ⟨k2, rfl⟩ : ∃ t, k2 = t + 1 := ⟨k2 - 1, by omega⟩
        have hw : IntKind.i64.wrap (((k2 + 1 : Nat) : Int) - 1) = (k2 : Int) := by rw [wrap_in (by omega) (by omega)]; omega
        have hL3 : (L2 ++ [evAt f seed g2 b j]).length = L2.length + 1 := by simp
        refine AWp.weaken (s' := ⟨[(4, .ptr f.cells), (11, .obj 36 0), (12, .i64 b), (14, .i64 j), (45, .i64 (f.Blocks.getD b default).Instrs.length), (46, .i64 j)], [(36, rnrC f seed k2 34 61 L2.length), (34, rowG f.Values.length g2), (61, rowE L2)]⟩) ?_ ?_
        · rw [← hw]
          refine And.intro ?_ (And.intro rfl (And.intro ?_ (And.intro ⟨_, _, rfl, rfl, fun i hi => rfl⟩ (And.intro trivial (And.intro ⟨_, _, rfl, rfl, fun i hi => rfl⟩ (And.intro trivial trivial))))))
          all_goals repeat' (first | exact rfl | exact trivial | refine And.intro ?_ ?_)
        repeat (first | refine AWp.seq ?_ | refine AWp.block ?_ | refine AWp.skip ?_)
        refine AWp.region ?_
        refine CallX.lend (m_instr f hC seed k2 g2 L2 (by omega) b j hb2 hj') [(1001, 36), (1002, 34), (1003, 61), (101, 101)] rfl (And.intro rfl (And.intro rfl (And.intro rfl trivial))) rfl ?_
        intro _
        refine AWp.rename 101 61 rfl rfl ?_
        repeat (first | refine AWp.seq ?_ | refine AWp.block ?_ | refine AWp.skip ?_)
        refine AWp.region ?_
        intro _
        refine round_end ((k2, takesF seed (f.Blocks.getD b default) j (rdAt f g2 b j)), (dfAt f seed g2 b j, L2 ++ [evAt f seed g2 b j]), j + 1) ⟨hj', by show k2 ≤ k; omega, by show (L2 ++ [evAt f seed g2 b j]).length + k2 ≤ 5000; omega, fun he h0 => takes_lt he h0, by rw [← hR2, srcF_at]⟩ ?_ (by show (f.Blocks.getD b default).Instrs.length - (j + 1) < (f.Blocks.getD b default).Instrs.length - j; omega)
        refine And.intro ?_ (And.intro (congrArg (fun q : Nat => some (HO.cells (f.cells ++ [AV.i64 seed, AV.i64 (k2 : Int), AV.sl 34 f.Values.length, AV.sl 61 q]))) hL3.symm) (And.intro ?_ (And.intro ⟨_, _, rfl, rfl, fun i hi => rfl⟩ (And.intro trivial (And.intro ⟨_, _, rfl, rfl, fun i hi => rfl⟩ (And.intro trivial trivial))))))
        all_goals repeat' (first | exact rfl | exact trivial | exact congrArg (fun z => some (AV.i64 z)) (wrap_succ hj' hil) | refine And.intro ?_ ?_)
    · have hj3 : ¬ (j : Int) < (f.Blocks.getD b default).Instrs.length := of_decide_eq_false h4
      have hjE : j = (f.Blocks.getD b default).Instrs.length := by omega
      rw [if_neg (by omega)] at hR2
      refine AWp.exit ?_
      repeat (first | refine AWp.seq ?_ | refine AWp.block ?_ | refine AWp.skip ?_)
      refine AWp.region ?_
      refine And.intro (fun _ => And.intro (Int.natCast_nonneg _) (Int.ofNat_lt.2 hb2)) ?_
      intro _
      repeat (first | refine AWp.seq ?_ | refine AWp.block ?_ | refine AWp.skip ?_)
      refine AWp.cond (And.intro (fun h6 => ?_) (fun h6 => ?_))
      · have he0 : (f.Blocks.getD b default).Edges.length = 0 := by simpa using h6
        unfold conF at hR2
        rw [if_pos he0] at hR2
        rw [← hR2]
        refine AWp.exit ?_
        refine AWp.freeze 61 (fun i => evtC (L2.getD i default)) rfl (fun i hi => rfl) ?_
        repeat (first | refine AWp.seq ?_ | refine AWp.block ?_ | refine AWp.skip ?_)
        refine AWp.region ?_
        intro _
        refine AWp.ret ⟨Or.inl rfl, rfl, ?_⟩
        intro _
        rfl
      · have he0 : ¬ (f.Blocks.getD b default).Edges.length = 0 := by simpa using h6
        unfold conF at hR2
        rw [if_neg he0] at hR2
        obtain ⟨he1, he2⟩ := hed hjE (by omega)
        have hen : ed.toNat < (f.Blocks.getD b default).Edges.length := by omega
        have heB := hC.e.edge b ed.toNat hb2 hen
        have hal := chkd_args (show chkF f m = 0 from Classical.byContradiction fun hn => by rw [flwF_1 hn] at h0; exact hn h0) hb2 hen
        repeat (first | refine AWp.seq ?_ | refine AWp.block ?_ | refine AWp.skip ?_)
        refine AWp.region ?_
        refine And.intro (fun _ => And.intro (Int.natCast_nonneg _) (Int.ofNat_lt.2 hb2)) ?_
        refine And.intro (fun _ => And.intro he1 he2) ?_
        intro _
        refine AWp.freezeObj 15 rfl rfl ?_
        repeat (first | refine AWp.seq ?_ | refine AWp.block ?_ | refine AWp.skip ?_)
        refine AWp.region ?_
        refine CallX.lend (m_follow f seed k2 g2 L2 ((f.Blocks.getD b default).Edges.getD ed.toNat default) (by omega) (fun q hq => idx_ok (hC.argv b ed.toNat q hb2 hen hq)) (fun q hq => par_rng hC (by omega) hq) (by omega) (hC.argl b ed.toNat hb2 hen)) [(1001, 36), (1002, 34), (1003, 61)] rfl (And.intro rfl (And.intro rfl (And.intro rfl trivial))) rfl ?_
        intro _
        repeat (first | refine AWp.seq ?_ | refine AWp.block ?_ | refine AWp.skip ?_)
        refine AWp.region ?_
        intro _
        refine Exists.intro ((k2, ((f.Blocks.getD b default).Edges.getD ed.toNat default).Block.toNat), (folF g2 ((f.Blocks.getD b default).Edges.getD ed.toNat default).Args (f.Blocks.getD ((f.Blocks.getD b default).Edges.getD ed.toNat default).Block.toNat default).Params (f.Blocks.getD ((f.Blocks.getD b default).Edges.getD ed.toNat default).Block.toNat default).Params.length, L2)) (And.intro ⟨by show ((f.Blocks.getD b default).Edges.getD ed.toNat default).Block.toNat < f.Blocks.length; omega, by show k2 ≤ 5000; omega, hL2, hR2⟩ (And.intro ?_ (by show k2 < k + 1; omega)))
        refine And.intro ?_ (And.intro rfl (And.intro ?_ (And.intro ⟨_, _, rfl, rfl, fun i hi => rfl⟩ (And.intro trivial (And.intro ⟨_, _, rfl, rfl, fun i hi => rfl⟩ (And.intro trivial trivial))))))
        all_goals repeat' (first | exact rfl | exact trivial | exact congrArg (fun z => some (AV.i64 z)) (show ((f.Blocks.getD b default).Edges.getD ed.toNat default).Block = ((((f.Blocks.getD b default).Edges.getD ed.toNat default).Block.toNat : Nat) : Int) from by omega) | refine And.intro ?_ ?_)
  · have hk0 : k = 0 := Classical.byContradiction fun hn => by
      have hw2 : IntKind.i64.wrap ((k : Int) - 1) = (k : Int) - 1 := wrap_in (by omega) (by omega)
      have h3 : decide (IntKind.i64.wrap ((k : Int) - 1) ≥ 0) = false := h3
      rw [hw2, decide_eq_true (by omega)] at h3
      cases h3
    subst hk0
    rw [srcF_zero] at hR
    rw [← hR]
    refine AWp.exit ?_
    refine AWp.freeze 61 (fun i => evtC (L.getD i default)) rfl (fun i hi => rfl) ?_
    repeat (first | refine AWp.seq ?_ | refine AWp.block ?_ | refine AWp.skip ?_)
    refine AWp.region ?_
    intro _
    refine AWp.ret ⟨Or.inl rfl, rfl, ?_⟩
    intro _
    rfl
end Go.Proofs.Ytpmbbanoiipepaa

/- Contract of the document's SourceRun. Condition: a checked function; steps within bounds. -/
namespace Go.Proofs.Ytpmbbanoiipepaa
open Go Go.Abs Go.RowKit Go.Abs.Gra

set_option maxHeartbeats 8000000 in
theorem c_SourceRun (f : Fun) (m : Mch) (hok : Fun.ok f) (h0 : flwF f m = 0) (seed : Int) (n : Nat) (hn : n ≤ 5000) : ACallIs B.P 22 [f.av, m.av, .i64 seed, .i64 n] (.tup [evtV (srcF f seed n 0 0 (fun _ => 0) []), .i64 0]) := by
  have hc := c_FuncFault f m hok
  rw [h0] at hc
  have hC := chkd_of (show chkF f m = 0 from Classical.byContradiction fun hn => by rw [flwF_1 hn] at h0; exact hn h0)
  have hz := hC.e.siz
  have hb := hz.blocks
  have hvl := hz.values
  have hnm : n ≤ maxLen := by unfold maxLen; omega
  refine ACallIs.enter B _ _ Try.func22 rfl rfl Try.ntmps22 Try.results22 rfl fun hreal => ?_
  clear hreal
  repeat (first | refine AWp.seq ?_ | refine AWp.block ?_ | refine AWp.skip ?_)
  refine AWp.region ?_
  intro _
  refine AWp.freezeObj 4 rfl rfl ?_
  refine AWp.freezeObj 5 rfl rfl ?_
  repeat (first | refine AWp.seq ?_ | refine AWp.block ?_ | refine AWp.skip ?_)
  refine AWp.region ?_
  refine CallX.pure hc rfl rfl rfl ?_
  intro _
  repeat (first | refine AWp.seq ?_ | refine AWp.block ?_ | refine AWp.skip ?_)
  refine AWp.region ?_
  repeat' (first | refine And.intro ?_ ?_ | refine CallK.intro (fun _ => c_In n 0 5000) ?_)
  all_goals first | exact fun h => h | exact gT | exact gF | skip
  intro _
  repeat (first | refine AWp.seq ?_ | refine AWp.block ?_ | refine AWp.skip ?_)
  refine AWp.cond (And.intro (fun h1 => ?_) (fun h1 => ?_))
  · exfalso
    have h1 : (!inB (n : Int) 0 5000) = true := h1
    unfold inB at h1; grind
  repeat (first | refine AWp.seq ?_ | refine AWp.block ?_ | refine AWp.skip ?_)
  refine AWp.region ?_
  intro _
  repeat (first | refine AWp.seq ?_ | refine AWp.block ?_ | refine AWp.skip ?_)
  refine AWp.cond (And.intro (fun h2 => ?_) (fun h2 => ?_))
  · cases h2
  repeat (first | refine AWp.seq ?_ | refine AWp.block ?_ | refine AWp.skip ?_)
  refine AWp.region ?_
  intro _
  repeat (first | refine AWp.seq ?_ | refine AWp.block ?_ | refine AWp.skip ?_)
  refine AWp.region ?_
  refine And.intro rfl (And.intro (Int.natCast_nonneg _) (And.intro (by simp only [Int.toNat_natCast]; omega) ?_))
  intro _
  repeat (first | refine AWp.seq ?_ | refine AWp.block ?_ | refine AWp.skip ?_)
  refine AWp.region ?_
  intro _
  repeat (first | refine AWp.seq ?_ | refine AWp.block ?_ | refine AWp.skip ?_)
  refine AWp.region ?_
  intro _
  repeat (first | refine AWp.seq ?_ | refine AWp.block ?_ | refine AWp.skip ?_)
  refine AWp.region ?_
  intro _
  refine AWp.adopt 11 62 133 4 rfl rfl rfl ?_
  repeat (first | refine AWp.seq ?_ | refine AWp.block ?_ | refine AWp.skip ?_)
  refine AWp.loop (fun s : (Nat × Nat) × Nat × ((Nat → Int) × List Evt) => ⟨[(2, .i64 seed), (3, .i64 n), (4, .ptr f.cells), (11, .sl 62 s.2.2.2.length), (12, .sl 43 f.Values.length), (13, .i64 s.1.2), (14, .i64 ((s.2.1 : Int) - 1)), (15, .i64 s.1.1)], [(43, rowG f.Values.length s.2.2.1), (62, rowE s.2.2.2)]⟩) (fun s => s.1.2 < f.Blocks.length ∧ s.1.1 ≤ n ∧ s.2.2.2.length ≤ s.1.1 ∧ (s.2.1 = 0 ∨ s.2.1 ≤ (f.Blocks.getD s.1.2 default).Instrs.length) ∧ srcF f seed (n - s.1.1) s.1.2 s.2.1 s.2.2.1 s.2.2.2 = srcF f seed n 0 0 (fun _ => 0) []) (fun s => n - s.1.1) ((0, 0), 0, (fun _ => 0, [])) ⟨by show 0 < f.Blocks.length; omega, Nat.zero_le _, Nat.le_refl _, Or.inl rfl, rfl⟩ ?_ ?_
  · refine And.intro ?_ (And.intro ⟨_, _, rfl, rfl, fun i hi => rfl⟩ (And.intro trivial (And.intro ⟨_, _, rfl, rfl, fun i hi => absurd hi (Nat.not_lt_zero _)⟩ (And.intro trivial trivial))))
    all_goals repeat' (first | exact rfl | exact trivial | refine And.intro ?_ ?_)
  rintro ⟨⟨t, b⟩, p, ⟨g, L⟩⟩ ⟨hb2, ht, hLt, hp, hR⟩
  simp only at hb2 ht hLt hp hR
  repeat (first | refine AWp.seq ?_ | refine AWp.block ?_ | refine AWp.skip ?_)
  refine AWp.region ?_
  intro _
  repeat (first | refine AWp.seq ?_ | refine AWp.block ?_ | refine AWp.skip ?_)
  refine AWp.cond (And.intro (fun h3 => ?_) (fun h3 => ?_))
  · have ht' : t < n := Int.ofNat_lt.1 (of_decide_eq_true h3)
    have hnk : n - t = n - (t + 1) + 1 := by omega
    rw [hnk] at hR
    repeat (first | refine AWp.seq ?_ | refine AWp.block ?_ | refine AWp.skip ?_)
    refine AWp.region ?_
    refine And.intro (fun _ => And.intro (Int.natCast_nonneg _) (Int.ofNat_lt.2 hb2)) ?_
    intro _
    refine AWp.freezeObj 16 rfl rfl ?_
    repeat (first | refine AWp.seq ?_ | refine AWp.block ?_ | refine AWp.skip ?_)
    refine AWp.region ?_
    intro _
    repeat (first | refine AWp.seq ?_ | refine AWp.block ?_ | refine AWp.skip ?_)
    refine AWp.region ?_
    intro _
    repeat (first | refine AWp.seq ?_ | refine AWp.block ?_ | refine AWp.skip ?_)
    refine AWp.mono (Q := fun e s => e = .normal ∧ ∃ (ed : Int) (g2 : Nat → Int) (L2 : List Evt), (L2.length ≤ t + 1 ∧ (p = (f.Blocks.getD b default).Instrs.length → 0 < (f.Blocks.getD b default).Edges.length → 0 ≤ ed ∧ ed < (f.Blocks.getD b default).Edges.length) ∧ (if p < (f.Blocks.getD b default).Instrs.length then srcF f seed (n - (t + 1)) b (p + 1) g2 L2 else conF f seed (n - (t + 1)) b ed g2 L2) = srcF f seed n 0 0 (fun _ => 0) []) ∧ Sub ⟨[(2, .i64 seed), (3, .i64 n), (4, .ptr f.cells), (11, .sl 135 L2.length), (12, .sl 43 f.Values.length), (13, .i64 b), (14, .i64 ((p : Int) - 1)), (15, .i64 t), (16, .ptr (f.Blocks.getD b default).cells), (17, .i64 ed)], [(43, rowG f.Values.length g2), (135, rowE L2)]⟩ s) ?_ ?_
    · repeat (first | refine AWp.seq ?_ | refine AWp.block ?_ | refine AWp.skip ?_)
      refine AWp.cond (And.intro (fun h4 => ?_) (fun h4 => ?_))
      · have hp1 : 1 ≤ p := by have h4 : decide ((p : Int) - 1 ≥ 0) = true := h4; have := of_decide_eq_true h4; omega
        obtain ⟨q, rfl⟩ : ∃ q, p = q + 1 := ⟨p - 1, by omega⟩
        have hq : q < (f.Blocks.getD b default).Instrs.length := by omega
        have hop : (insAt f b q).Operands.length ≤ 6 := hz.ops b q hb2 hq
        have hol : (insAt f b q).Operands.length ≤ maxLen := by unfold maxLen; omega
        have hrl : (rdAt f g b q).length ≤ (insAt f b q).Operands.length := readF_len
        have hLl : (L ++ [evAt f seed g b q]).length = L.length + 1 := by simp
        rw [srcF_at] at hR
        refine AWp.weaken (s' := ⟨[(2, .i64 seed), (3, .i64 n), (4, .ptr f.cells), (11, .sl 62 L.length), (12, .sl 43 f.Values.length), (13, .i64 b), (14, .i64 (q : Int)), (15, .i64 t), (16, .ptr (f.Blocks.getD b default).cells), (17, .i64 0)], [(43, rowG f.Values.length g), (62, rowE L)]⟩) ?_ ?_
        · refine And.intro ?_ (And.intro ⟨_, _, rfl, rfl, fun i hi => rfl⟩ (And.intro trivial (And.intro ⟨_, _, rfl, rfl, fun i hi => rfl⟩ (And.intro trivial trivial))))
          all_goals repeat' (first | exact rfl | exact trivial | exact congrArg (fun z => some (AV.i64 z)) (show (((q + 1 : Nat) : Int) - 1) = (q : Int) from by omega) | refine And.intro ?_ ?_)
        repeat (first | refine AWp.seq ?_ | refine AWp.block ?_ | refine AWp.skip ?_)
        refine AWp.region ?_
        intro _
        refine AWp.adopt 18 60 3 1 rfl rfl rfl ?_
        repeat (first | refine AWp.seq ?_ | refine AWp.block ?_ | refine AWp.skip ?_)
        refine AWp.region ?_
        intro _
        repeat (first | refine AWp.seq ?_ | refine AWp.block ?_ | refine AWp.skip ?_)
        refine AWp.loop (fun i : Nat => ⟨[(2, .i64 seed), (3, .i64 n), (4, .ptr f.cells), (11, .sl 62 L.length), (12, .sl 43 f.Values.length), (13, .i64 b), (14, .i64 (q : Int)), (15, .i64 t), (16, .ptr (f.Blocks.getD b default).cells), (17, .i64 0), (18, .sl 60 (readF g (insAt f b q) i).length), (19, .i64 i)], [(43, rowG f.Values.length g), (62, rowE L), (60, rowG (readF g (insAt f b q) i).length (fun q2 => (readF g (insAt f b q) i).getD q2 default))]⟩) (fun i => i ≤ (insAt f b q).Operands.length) (fun i => (insAt f b q).Operands.length - i) 0 (Nat.zero_le _) ?_ ?_
        · refine And.intro ?_ (And.intro ⟨_, _, rfl, rfl, fun i hi => rfl⟩ (And.intro trivial (And.intro ⟨_, _, rfl, rfl, fun i hi => rfl⟩ (And.intro trivial (And.intro ⟨_, _, rfl, rfl, fun i hi => absurd hi (Nat.not_lt_zero _)⟩ (And.intro trivial trivial))))))
          all_goals repeat' (first | exact rfl | exact trivial | refine And.intro ?_ ?_)
        intro i hi
        have hri := readF_len (g := g) (x := (insAt f b q)) (j := i)
        repeat (first | refine AWp.seq ?_ | refine AWp.block ?_ | refine AWp.skip ?_)
        refine AWp.region ?_
        refine And.intro (fun _ => And.intro (Int.natCast_nonneg _) (Int.ofNat_lt.2 hq)) ?_
        intro _
        repeat (first | refine AWp.seq ?_ | refine AWp.block ?_ | refine AWp.skip ?_)
        refine AWp.cond (And.intro (fun h5 => ?_) (fun h5 => ?_))
        · have hi' : i < (insAt f b q).Operands.length := Int.ofNat_lt.1 (of_decide_eq_true h5)
          have hr : 0 ≤ ((insAt f b q).Operands.getD i default).Value ∧ ((insAt f b q).Operands.getD i default).Value < f.Values.length := idx_ok (hC.opv b q i hb2 hq hi')
          have hrn : ((insAt f b q).Operands.getD i default).Value.toNat < f.Values.length := by omega
          repeat (first | refine AWp.seq ?_ | refine AWp.block ?_ | refine AWp.skip ?_)
          refine AWp.region ?_
          refine And.intro (fun _ => And.intro (Int.natCast_nonneg _) (Int.ofNat_lt.2 hq)) ?_
          refine And.intro (fun _ => And.intro (Int.natCast_nonneg _) (Int.ofNat_lt.2 hi')) ?_
          intro _
          refine AWp.freezeObj 20 rfl rfl ?_
          repeat (first | refine AWp.seq ?_ | refine AWp.block ?_ | refine AWp.skip ?_)
          refine AWp.region ?_
          intro _
          repeat (first | refine AWp.seq ?_ | refine AWp.block ?_ | refine AWp.skip ?_)
          refine AWp.cond (And.intro (fun hd => ?_) (fun hd => ?_))
          · have hS := readF_hit (g := g) hi' hd
            have hSl : (readF g (insAt f b q) (i + 1)).length = (readF g (insAt f b q) i).length + 1 := by rw [hS]; simp
            repeat (first | refine AWp.seq ?_ | refine AWp.block ?_ | refine AWp.skip ?_)
            refine AWp.region ?_
            refine And.intro (fun _ => hr) (And.intro (fun _ => hrn) ?_)
            refine And.intro (Nat.le_refl _) (And.intro (fun i hi => ?_) (And.intro rfl (And.intro (by omega) ?_)))
            · have e : i = 0 := by omega
              subst e; rfl
            intro _
            refine AWp.rename 86 60 rfl rfl ?_
            repeat (first | refine AWp.seq ?_ | refine AWp.block ?_ | refine AWp.skip ?_)
            refine AWp.region ?_
            intro _
            refine round_end (i + 1) hi' ?_ (by omega)
            refine And.intro ?_ (And.intro ⟨_, _, rfl, rfl, fun i hi => rfl⟩ (And.intro trivial (And.intro ⟨_, _, rfl, rfl, fun i hi => rfl⟩ (And.intro trivial (And.intro ⟨_, _, rfl, hSl.symm, fun q2 hq2 => ?_⟩ (And.intro trivial trivial))))))
            · repeat' (first | exact rfl | exact trivial | exact congrArg (fun n => some (AV.sl 60 n)) hSl.symm | exact congrArg (fun z => some (AV.i64 z)) (wrap_succ hi' hol) | refine And.intro ?_ ?_)
            · rw [hSl] at hq2
              rw [hS]
              exact snocI_row hq2
          · have hS := readF_miss (g := g) hi' hd
            repeat (first | refine AWp.seq ?_ | refine AWp.block ?_ | refine AWp.skip ?_)
            refine AWp.region ?_
            intro _
            refine round_end (i + 1) hi' ?_ (by omega)
            rw [hS]
            refine And.intro ?_ (And.intro ⟨_, _, rfl, rfl, fun i hi => rfl⟩ (And.intro trivial (And.intro ⟨_, _, rfl, rfl, fun i hi => rfl⟩ (And.intro trivial (And.intro ⟨_, _, rfl, rfl, fun q2 hq2 => rfl⟩ (And.intro trivial trivial))))))
            all_goals repeat' (first | exact rfl | exact trivial | exact congrArg (fun z => some (AV.i64 z)) (wrap_succ hi' hol) | refine And.intro ?_ ?_)
        have hi3 : ¬ (i : Int) < (insAt f b q).Operands.length := of_decide_eq_false h5
        obtain rfl : i = (insAt f b q).Operands.length := by omega
        clear hi hi3 h5 hri
        refine AWp.exit ?_
        refine AWp.freeze 60 (fun q2 => intC ((rdAt f g b q).getD q2 default)) rfl (fun i hi => rfl) ?_
        repeat (first | refine AWp.seq ?_ | refine AWp.block ?_ | refine AWp.skip ?_)
        refine AWp.region ?_
        intro _
        repeat (first | refine AWp.seq ?_ | refine AWp.block ?_ | refine AWp.skip ?_)
        refine AWp.loop (fun k : Nat => ⟨[(2, .i64 seed), (3, .i64 n), (4, .ptr f.cells), (11, .sl 62 L.length), (12, .sl 43 f.Values.length), (13, .i64 b), (14, .i64 (q : Int)), (15, .i64 t), (16, .ptr (f.Blocks.getD b default).cells), (17, .i64 0), (18, ints (rdAt f g b q)), (21, .i64 k)], [(43, rowG f.Values.length (dfF seed (insAt f b q) (rdAt f g b q) g k)), (62, rowE L)]⟩) (fun k => k ≤ (insAt f b q).Operands.length) (fun k => (insAt f b q).Operands.length - k) 0 (Nat.zero_le _) ?_ ?_
        · refine And.intro ?_ (And.intro ⟨_, _, rfl, rfl, fun i hi => rfl⟩ (And.intro trivial (And.intro ⟨_, _, rfl, rfl, fun i hi => rfl⟩ (And.intro trivial trivial))))
          all_goals repeat' (first | exact rfl | exact trivial | refine And.intro ?_ ?_)
        intro k hk
        repeat (first | refine AWp.seq ?_ | refine AWp.block ?_ | refine AWp.skip ?_)
        refine AWp.region ?_
        refine And.intro (fun _ => And.intro (Int.natCast_nonneg _) (Int.ofNat_lt.2 hq)) ?_
        intro _
        repeat (first | refine AWp.seq ?_ | refine AWp.block ?_ | refine AWp.skip ?_)
        refine AWp.cond (And.intro (fun h5 => ?_) (fun h5 => ?_))
        · have hk' : k < (insAt f b q).Operands.length := Int.ofNat_lt.1 (of_decide_eq_true h5)
          have hr : 0 ≤ ((insAt f b q).Operands.getD k default).Value ∧ ((insAt f b q).Operands.getD k default).Value < f.Values.length := idx_ok (hC.opv b q k hb2 hq hk')
          have hrn : ((insAt f b q).Operands.getD k default).Value.toNat < f.Values.length := by omega
          have hcm := c_madeBy seed k (insAt f b q) (rdAt f g b q) (by omega)
          repeat (first | refine AWp.seq ?_ | refine AWp.block ?_ | refine AWp.skip ?_)
          refine AWp.region ?_
          refine And.intro (fun _ => And.intro (Int.natCast_nonneg _) (Int.ofNat_lt.2 hq)) ?_
          refine And.intro (fun _ => And.intro (Int.natCast_nonneg _) (Int.ofNat_lt.2 hk')) ?_
          intro _
          refine AWp.freezeObj 22 rfl rfl ?_
          repeat (first | refine AWp.seq ?_ | refine AWp.block ?_ | refine AWp.skip ?_)
          refine AWp.region ?_
          intro _
          repeat (first | refine AWp.seq ?_ | refine AWp.block ?_ | refine AWp.skip ?_)
          refine AWp.cond (And.intro (fun hd => ?_) (fun hd => ?_))
          · have hd2 : ((insAt f b q).Operands.getD k default).Kind = 2 := by simpa using hd
            repeat (first | refine AWp.seq ?_ | refine AWp.block ?_ | refine AWp.skip ?_)
            refine AWp.quietFirst (.q 0 (.q 1 (.q 2 (.q 3 (.q 4 (.q 5 (.q 6 (.q 7 (.q 8 (.q 9 (.q 10 (.c 11 false (.q 12 (.c 13 true .fin .no)) .no)))))))))))) [0, 1, 2, 3, 4, 5, 6, 7, 8, 9, 10, 12] [43] mixed (by kernel_rfl) ?_
            repeat' (first | exact trivial | refine And.intro ?_ ?_ | refine CallX.pure hcm rfl rfl rfl ?_)
            all_goals first | exact fun _ => hr | exact fun _ => hrn | exact hrn | exact rfl | exact (fun _ => And.intro (Int.natCast_nonneg _) (Int.ofNat_lt.2 hq)) | skip
            intro _
            repeat (first | refine AWp.seq ?_ | refine AWp.block ?_ | refine AWp.skip ?_)
            refine AWp.region ?_
            intro _
            refine round_end (k + 1) hk' ?_ (by omega)
            refine And.intro ?_ (And.intro ⟨_, _, rfl, rfl, fun i hi => ?_⟩ (And.intro trivial (And.intro ⟨_, _, rfl, rfl, fun i hi => rfl⟩ (And.intro trivial trivial))))
            · repeat' (first | exact rfl | exact trivial | exact congrArg (fun z => some (AV.i64 z)) (wrap_succ hk' hol) | refine And.intro ?_ ?_)
            · show intC (if ((insAt f b q).Operands.getD k default).Kind = 2 ∧ i = ((insAt f b q).Operands.getD k default).Value.toNat then mixF (seed :: (insAt f b q).Op :: (k : Int) :: rdAt f g b q) else dfF seed (insAt f b q) (rdAt f g b q) g k i) = if i = ((insAt f b q).Operands.getD k default).Value.toNat then intC (mixF (seed :: (insAt f b q).Op :: (k : Int) :: rdAt f g b q)) else intC (dfF seed (insAt f b q) (rdAt f g b q) g k i)
              by_cases e : i = ((insAt f b q).Operands.getD k default).Value.toNat
              · rw [if_pos ⟨hd2, e⟩, if_pos e]
              · rw [if_neg fun h => e h.2, if_neg e]
          · have hd2 : ¬ ((insAt f b q).Operands.getD k default).Kind = 2 := by simpa using hd
            repeat (first | refine AWp.seq ?_ | refine AWp.block ?_ | refine AWp.skip ?_)
            refine AWp.region ?_
            intro _
            refine round_end (k + 1) hk' ?_ (by omega)
            refine And.intro ?_ (And.intro ⟨_, _, rfl, rfl, fun i hi => ?_⟩ (And.intro trivial (And.intro ⟨_, _, rfl, rfl, fun i hi => rfl⟩ (And.intro trivial trivial))))
            · repeat' (first | exact rfl | exact trivial | exact congrArg (fun z => some (AV.i64 z)) (wrap_succ hk' hol) | refine And.intro ?_ ?_)
            · show intC (if ((insAt f b q).Operands.getD k default).Kind = 2 ∧ i = ((insAt f b q).Operands.getD k default).Value.toNat then mixF (seed :: (insAt f b q).Op :: (k : Int) :: rdAt f g b q) else dfF seed (insAt f b q) (rdAt f g b q) g k i) = intC (dfF seed (insAt f b q) (rdAt f g b q) g k i)
              rw [if_neg fun h => hd2 h.1]
        have hk3 : ¬ (k : Int) < (insAt f b q).Operands.length := of_decide_eq_false h5
        obtain rfl : k = (insAt f b q).Operands.length := by omega
        refine AWp.exit ?_
        repeat (first | refine AWp.seq ?_ | refine AWp.block ?_ | refine AWp.skip ?_)
        refine AWp.region ?_
        refine CallX.pure (c_edgeTaken seed q (f.Blocks.getD b default) (rdAt f g b q) (by omega)) rfl rfl rfl ?_
        intro _
        repeat (first | refine AWp.seq ?_ | refine AWp.block ?_ | refine AWp.skip ?_)
        refine AWp.region ?_
        refine And.intro (Nat.le_refl _) (And.intro (fun i hi => ?_) (And.intro rfl (And.intro (by omega) ?_)))
        · have e : i = 0 := by omega
          subst e; rfl
        intro _
        refine And.intro rfl (Exists.intro (takesF seed (f.Blocks.getD b default) q (rdAt f g b q)) (Exists.intro (dfAt f seed g b q) (Exists.intro (L ++ [evAt f seed g b q]) (And.intro ⟨by rw [hLl]; omega, fun he h => takes_lt he h, hR⟩ ?_))))
        refine And.intro ?_ (And.intro ⟨_, _, rfl, rfl, fun i hi => rfl⟩ (And.intro trivial (And.intro ⟨_, _, rfl, hLl.symm, fun i hi => ?_⟩ (And.intro trivial trivial))))
        · repeat' (first | exact rfl | exact trivial | exact congrArg (fun n => some (AV.sl 135 n)) hLl.symm | exact congrArg (fun z => some (AV.i64 z)) (show (q : Int) = (((q + 1 : Nat) : Int) - 1) from by omega) | refine And.intro ?_ ?_)
        · rw [hLl] at hi
          exact snocE_row hi
      · have hp0 : p = 0 := by have h4 : decide ((p : Int) - 1 ≥ 0) = false := h4; have := of_decide_eq_false h4; omega
        subst hp0
        rw [srcF_in] at hR
        refine AWp.rename 62 135 rfl rfl ?_
        refine AWp.skip ?_
        refine And.intro rfl (Exists.intro 0 (Exists.intro g (Exists.intro L (And.intro ⟨by omega, fun _ he => ⟨Int.le_refl _, by omega⟩, hR⟩ ?_))))
        refine And.intro ?_ (And.intro ⟨_, _, rfl, rfl, fun i hi => rfl⟩ (And.intro trivial (And.intro ⟨_, _, rfl, rfl, fun i hi => rfl⟩ (And.intro trivial trivial))))
        all_goals repeat' (first | exact rfl | exact trivial | refine And.intro ?_ ?_)
    · rintro _ _ ⟨rfl, ed, g2, L2, ⟨hL2, hed, hR2⟩, hs⟩
      refine AWp.weaken hs ?_
      refine AWp.rename 135 62 rfl rfl ?_
      have hpI : p ≤ (f.Blocks.getD b default).Instrs.length := by omega
      have hiz := hz.instrs b hb2
      have hw : IntKind.i64.wrap ((p : Int) - 1 + 1) = (p : Int) := by rw [wrap_in (by omega) (by omega)]; omega
      repeat (first | refine AWp.seq ?_ | refine AWp.block ?_ | refine AWp.skip ?_)
      refine AWp.region ?_
      intro _
      repeat (first | refine AWp.seq ?_ | refine AWp.block ?_ | refine AWp.skip ?_)
      refine AWp.region ?_
      intro _
      repeat (first | refine AWp.seq ?_ | refine AWp.block ?_ | refine AWp.skip ?_)
      refine AWp.cond (And.intro (fun h5 => ?_) (fun h5 => ?_))
      · have hp' : p < (f.Blocks.getD b default).Instrs.length := by
          have h5 : decide (IntKind.i64.wrap ((p : Int) - 1 + 1) < ((f.Blocks.getD b default).Instrs.length : Int)) = true := h5
          rw [hw] at h5
          have := of_decide_eq_true h5; omega
        rw [if_pos hp'] at hR2
        refine AWp.exit ?_
        repeat (first | refine AWp.seq ?_ | refine AWp.block ?_ | refine AWp.skip ?_)
        refine AWp.region ?_
        intro _
        refine round_end ((t + 1, b), p + 1, (g2, L2)) ⟨hb2, ht', hL2, Or.inr hp', hR2⟩ ?_ (by show n - (t + 1) < n - t; omega)
        refine And.intro ?_ (And.intro ⟨_, _, rfl, rfl, fun i hi => rfl⟩ (And.intro trivial (And.intro ⟨_, _, rfl, rfl, fun i hi => rfl⟩ (And.intro trivial trivial))))
        all_goals repeat' (first | exact rfl | exact trivial | exact congrArg (fun z => some (AV.i64 z)) (wrap_succ ht' hnm) | exact congrArg (fun z => some (AV.i64 z)) (hw.trans (show (p : Int) = ((p + 1 : Nat) : Int) - 1 from by omega)) | refine And.intro ?_ ?_)
      · have hp' : ¬ p < (f.Blocks.getD b default).Instrs.length := by
          have h5 : decide (IntKind.i64.wrap ((p : Int) - 1 + 1) < ((f.Blocks.getD b default).Instrs.length : Int)) = false := h5
          rw [hw] at h5
          have := of_decide_eq_false h5; omega
        rw [if_neg hp'] at hR2
        repeat (first | refine AWp.seq ?_ | refine AWp.block ?_ | refine AWp.skip ?_)
        refine AWp.region ?_
        intro _
        repeat (first | refine AWp.seq ?_ | refine AWp.block ?_ | refine AWp.skip ?_)
        refine AWp.cond (And.intro (fun h6 => ?_) (fun h6 => ?_))
        · have he0 : (f.Blocks.getD b default).Edges.length = 0 := by simpa using h6
          unfold conF at hR2
          rw [if_pos he0] at hR2
          rw [← hR2]
          refine AWp.exit ?_
          refine AWp.freeze 62 (fun i => evtC (L2.getD i default)) rfl (fun i hi => rfl) ?_
          repeat (first | refine AWp.seq ?_ | refine AWp.block ?_ | refine AWp.skip ?_)
          refine AWp.region ?_
          intro _
          refine AWp.ret ⟨Or.inl rfl, rfl, ?_⟩
          intro _
          rfl
        · have he0 : ¬ (f.Blocks.getD b default).Edges.length = 0 := by simpa using h6
          unfold conF at hR2
          rw [if_neg he0] at hR2
          obtain ⟨he1, he2⟩ := hed (by omega) (by omega)
          have hen : ed.toNat < (f.Blocks.getD b default).Edges.length := by omega
          have heB := hC.e.edge b ed.toNat hb2 hen
          have hal := chkd_args (show chkF f m = 0 from Classical.byContradiction fun hn => by rw [flwF_1 hn] at h0; exact hn h0) hb2 hen
          have hal5 := hC.argl b ed.toNat hb2 hen
          have hbk : 0 ≤ ((f.Blocks.getD b default).Edges.getD ed.toNat default).Block ∧ ((f.Blocks.getD b default).Edges.getD ed.toNat default).Block < f.Blocks.length := by omega
          have halm : ((f.Blocks.getD b default).Edges.getD ed.toNat default).Args.length ≤ maxLen := by unfold maxLen; omega
          repeat (first | refine AWp.seq ?_ | refine AWp.block ?_ | refine AWp.skip ?_)
          refine AWp.region ?_
          refine And.intro (fun _ => And.intro he1 he2) ?_
          intro _
          refine AWp.freezeObj 23 rfl rfl ?_
          repeat (first | refine AWp.seq ?_ | refine AWp.block ?_ | refine AWp.skip ?_)
          refine AWp.region ?_
          intro _
          refine AWp.adopt 24 60 3 1 rfl rfl rfl ?_
          repeat (first | refine AWp.seq ?_ | refine AWp.block ?_ | refine AWp.skip ?_)
          refine AWp.region ?_
          intro _
          repeat (first | refine AWp.seq ?_ | refine AWp.block ?_ | refine AWp.skip ?_)
          refine AWp.loop (fun j : Nat => ⟨[(2, .i64 seed), (3, .i64 n), (4, .ptr f.cells), (11, .sl 62 L2.length), (12, .sl 43 f.Values.length), (15, .i64 t), (23, .ptr ((f.Blocks.getD b default).Edges.getD ed.toNat default).cells), (24, .sl 60 j), (25, .i64 j)], [(43, rowG f.Values.length g2), (62, rowE L2), (60, rowG j (fun i => g2 (((f.Blocks.getD b default).Edges.getD ed.toNat default).Args.getD i default).toNat))]⟩) (fun j => j ≤ ((f.Blocks.getD b default).Edges.getD ed.toNat default).Args.length) (fun j => ((f.Blocks.getD b default).Edges.getD ed.toNat default).Args.length - j) 0 (Nat.zero_le _) ?_ ?_
          · refine And.intro ?_ (And.intro ⟨_, _, rfl, rfl, fun i hi => rfl⟩ (And.intro trivial (And.intro ⟨_, _, rfl, rfl, fun i hi => rfl⟩ (And.intro trivial (And.intro ⟨_, _, rfl, rfl, fun i hi => absurd hi (Nat.not_lt_zero _)⟩ (And.intro trivial trivial))))))
            all_goals repeat' (first | exact rfl | exact trivial | refine And.intro ?_ ?_)
          intro j hj
          repeat (first | refine AWp.seq ?_ | refine AWp.block ?_ | refine AWp.skip ?_)
          refine AWp.region ?_
          intro _
          repeat (first | refine AWp.seq ?_ | refine AWp.block ?_ | refine AWp.skip ?_)
          refine AWp.cond (And.intro (fun h7 => ?_) (fun h7 => ?_))
          · have hj' : j < ((f.Blocks.getD b default).Edges.getD ed.toNat default).Args.length := Int.ofNat_lt.1 (of_decide_eq_true h7)
            have hr : 0 ≤ ((f.Blocks.getD b default).Edges.getD ed.toNat default).Args.getD j default ∧ ((f.Blocks.getD b default).Edges.getD ed.toNat default).Args.getD j default < f.Values.length := idx_ok (hC.argv b ed.toNat j hb2 hen hj')
            have hrn : (((f.Blocks.getD b default).Edges.getD ed.toNat default).Args.getD j default).toNat < f.Values.length := by omega
            repeat (first | refine AWp.seq ?_ | refine AWp.block ?_ | refine AWp.skip ?_)
            refine AWp.region ?_
            refine And.intro (fun _ => And.intro (Int.natCast_nonneg _) (Int.ofNat_lt.2 hj')) ?_
            refine And.intro (fun _ => hr) (And.intro (fun _ => hrn) ?_)
            refine And.intro (Nat.le_refl _) (And.intro (fun i hi => ?_) (And.intro rfl (And.intro (by omega) ?_)))
            · have e : i = 0 := by omega
              subst e; rfl
            intro _
            refine AWp.rename 169 60 rfl rfl ?_
            repeat (first | refine AWp.seq ?_ | refine AWp.block ?_ | refine AWp.skip ?_)
            refine AWp.region ?_
            intro _
            refine round_end (j + 1) hj' ?_ (by omega)
            refine And.intro ?_ (And.intro ⟨_, _, rfl, rfl, fun i hi => rfl⟩ (And.intro trivial (And.intro ⟨_, _, rfl, rfl, fun i hi => rfl⟩ (And.intro trivial (And.intro ⟨_, _, rfl, rfl, fun i hi => snocG_row (g := fun i => g2 (((f.Blocks.getD b default).Edges.getD ed.toNat default).Args.getD i default).toNat) hi rfl⟩ (And.intro trivial trivial))))))
            all_goals repeat' (first | exact rfl | exact trivial | exact congrArg (fun z => some (AV.i64 z)) (wrap_succ hj' halm) | refine And.intro ?_ ?_)
          have hj3 : ¬ (j : Int) < ((f.Blocks.getD b default).Edges.getD ed.toNat default).Args.length := of_decide_eq_false h7
          obtain rfl : j = ((f.Blocks.getD b default).Edges.getD ed.toNat default).Args.length := by omega
          refine AWp.exit ?_
          refine AWp.freeze 60 (fun i => intC (g2 (((f.Blocks.getD b default).Edges.getD ed.toNat default).Args.getD i default).toNat)) rfl (fun i hi => rfl) ?_
          repeat (first | refine AWp.seq ?_ | refine AWp.block ?_ | refine AWp.skip ?_)
          refine AWp.region ?_
          intro _
          repeat (first | refine AWp.seq ?_ | refine AWp.block ?_ | refine AWp.skip ?_)
          refine AWp.loop (fun k : Nat => ⟨[(2, .i64 seed), (3, .i64 n), (4, .ptr f.cells), (11, .sl 62 L2.length), (12, .sl 43 f.Values.length), (15, .i64 t), (23, .ptr ((f.Blocks.getD b default).Edges.getD ed.toNat default).cells), (24, .ro 1 ((f.Blocks.getD b default).Edges.getD ed.toNat default).Args.length (fun i => intC (g2 (((f.Blocks.getD b default).Edges.getD ed.toNat default).Args.getD i default).toNat))), (26, .i64 k)], [(43, rowG f.Values.length (folF g2 ((f.Blocks.getD b default).Edges.getD ed.toNat default).Args (f.Blocks.getD ((f.Blocks.getD b default).Edges.getD ed.toNat default).Block.toNat default).Params k)), (62, rowE L2)]⟩) (fun k => k ≤ ((f.Blocks.getD b default).Edges.getD ed.toNat default).Args.length) (fun k => ((f.Blocks.getD b default).Edges.getD ed.toNat default).Args.length - k) 0 (Nat.zero_le _) ?_ ?_
          · refine And.intro ?_ (And.intro ⟨_, _, rfl, rfl, fun i hi => rfl⟩ (And.intro trivial (And.intro ⟨_, _, rfl, rfl, fun i hi => rfl⟩ (And.intro trivial trivial))))
            all_goals repeat' (first | exact rfl | exact trivial | refine And.intro ?_ ?_)
          intro k hk
          repeat (first | refine AWp.seq ?_ | refine AWp.block ?_ | refine AWp.skip ?_)
          refine AWp.region ?_
          intro _
          repeat (first | refine AWp.seq ?_ | refine AWp.block ?_ | refine AWp.skip ?_)
          refine AWp.cond (And.intro (fun h8 => ?_) (fun h8 => ?_))
          · have hk' : k < ((f.Blocks.getD b default).Edges.getD ed.toNat default).Args.length := Int.ofNat_lt.1 (of_decide_eq_true h8)
            have hk2 : k < (f.Blocks.getD ((f.Blocks.getD b default).Edges.getD ed.toNat default).Block.toNat default).Params.length := by omega
            have hr := par_rng hC (k := ((f.Blocks.getD b default).Edges.getD ed.toNat default).Block.toNat) (q := k) (by omega) hk2
            have hrn : ((f.Blocks.getD ((f.Blocks.getD b default).Edges.getD ed.toNat default).Block.toNat default).Params.getD k default).toNat < f.Values.length := by omega
            repeat (first | refine AWp.seq ?_ | refine AWp.block ?_ | refine AWp.skip ?_)
            refine AWp.mono (Q := fun x s => x = .normal ∧ Sub ⟨[(2, .i64 seed), (3, .i64 n), (4, .ptr f.cells), (11, .sl 62 L2.length), (12, .sl 43 f.Values.length), (15, .i64 t), (23, .ptr ((f.Blocks.getD b default).Edges.getD ed.toNat default).cells), (24, .ro 1 ((f.Blocks.getD b default).Edges.getD ed.toNat default).Args.length (fun i => intC (g2 (((f.Blocks.getD b default).Edges.getD ed.toNat default).Args.getD i default).toNat))), (26, .i64 k)], [(43, rowG f.Values.length (folF g2 ((f.Blocks.getD b default).Edges.getD ed.toNat default).Args (f.Blocks.getD ((f.Blocks.getD b default).Edges.getD ed.toNat default).Block.toNat default).Params (k + 1))), (62, rowE L2)]⟩ s) ?_ ?_
            · refine AWp.quietFirst (.q 0 (.q 1 (.q 2 (.q 3 (.q 4 (.q 5 (.q 6 (.q 7 (.q 8 (.q 9 (.q 10 (.q 11 (.q 12 (.q 13 (.q 14 (.q 15 (.c 16 true .fin .no))))))))))))))))) [0, 1, 2, 3, 4, 5, 6, 7, 8, 9, 10, 11, 12, 13, 14, 15] [43] mixed (by kernel_rfl) ?_
              repeat' (first | exact trivial | refine And.intro ?_ ?_)
              all_goals first | exact (fun _ => hbk) | exact (fun _ => And.intro (Int.natCast_nonneg _) (Int.ofNat_lt.2 hk2)) | exact (fun _ => And.intro (Int.natCast_nonneg _) (Int.ofNat_lt.2 hk')) | exact fun _ => hr | exact fun _ => hrn | exact hrn | skip
              all_goals
                intro _
                refine And.intro rfl (And.intro ?_ (And.intro ⟨_, _, rfl, rfl, fun i hi => ?_⟩ (And.intro trivial (And.intro ⟨_, _, rfl, rfl, fun i hi => rfl⟩ (And.intro trivial trivial)))))
                · repeat' (first | exact rfl | exact trivial | refine And.intro ?_ ?_)
                · show intC (if i = ((f.Blocks.getD ((f.Blocks.getD b default).Edges.getD ed.toNat default).Block.toNat default).Params.getD k default).toNat then g2 (((f.Blocks.getD b default).Edges.getD ed.toNat default).Args.getD k default).toNat else folF g2 ((f.Blocks.getD b default).Edges.getD ed.toNat default).Args (f.Blocks.getD ((f.Blocks.getD b default).Edges.getD ed.toNat default).Block.toNat default).Params k i) = if i = ((f.Blocks.getD ((f.Blocks.getD b default).Edges.getD ed.toNat default).Block.toNat default).Params.getD k default).toNat then intC (g2 (((f.Blocks.getD b default).Edges.getD ed.toNat default).Args.getD k default).toNat) else intC (folF g2 ((f.Blocks.getD b default).Edges.getD ed.toNat default).Args (f.Blocks.getD ((f.Blocks.getD b default).Edges.getD ed.toNat default).Block.toNat default).Params k i)
                  split <;> rfl
            rintro _ _ ⟨rfl, hs⟩
            refine AWp.weaken hs ?_
            repeat (first | refine AWp.seq ?_ | refine AWp.block ?_ | refine AWp.skip ?_)
            refine AWp.region ?_
            intro _
            refine round_end (k + 1) hk' ?_ (by omega)
            refine And.intro ?_ (And.intro ⟨_, _, rfl, rfl, fun i hi => rfl⟩ (And.intro trivial (And.intro ⟨_, _, rfl, rfl, fun i hi => rfl⟩ (And.intro trivial trivial))))
            all_goals repeat' (first | exact rfl | exact trivial | exact congrArg (fun z => some (AV.i64 z)) (wrap_succ hk' halm) | refine And.intro ?_ ?_)
          have hk3 : ¬ (k : Int) < ((f.Blocks.getD b default).Edges.getD ed.toNat default).Args.length := of_decide_eq_false h8
          obtain rfl : k = ((f.Blocks.getD b default).Edges.getD ed.toNat default).Args.length := by omega
          refine AWp.exit ?_
          repeat (first | refine AWp.seq ?_ | refine AWp.block ?_ | refine AWp.skip ?_)
          refine AWp.region ?_
          intro _
          repeat (first | refine AWp.seq ?_ | refine AWp.block ?_ | refine AWp.skip ?_)
          refine AWp.region ?_
          intro _
          repeat (first | refine AWp.seq ?_ | refine AWp.block ?_ | refine AWp.skip ?_)
          refine AWp.region ?_
          intro _
          rw [← hal] at hR2
          refine round_end ((t + 1, ((f.Blocks.getD b default).Edges.getD ed.toNat default).Block.toNat), 0, (folF g2 ((f.Blocks.getD b default).Edges.getD ed.toNat default).Args (f.Blocks.getD ((f.Blocks.getD b default).Edges.getD ed.toNat default).Block.toNat default).Params ((f.Blocks.getD b default).Edges.getD ed.toNat default).Args.length, L2)) ⟨by show ((f.Blocks.getD b default).Edges.getD ed.toNat default).Block.toNat < f.Blocks.length; omega, ht', hL2, Or.inl rfl, hR2⟩ ?_ (by show n - (t + 1) < n - t; omega)
          refine And.intro ?_ (And.intro ⟨_, _, rfl, rfl, fun i hi => rfl⟩ (And.intro trivial (And.intro ⟨_, _, rfl, rfl, fun i hi => rfl⟩ (And.intro trivial trivial))))
          all_goals repeat' (first | exact rfl | exact trivial | exact congrArg (fun z => some (AV.i64 z)) (wrap_succ ht' hnm) | exact congrArg (fun z => some (AV.i64 z)) (show ((f.Blocks.getD b default).Edges.getD ed.toNat default).Block = ((((f.Blocks.getD b default).Edges.getD ed.toNat default).Block.toNat : Nat) : Int) from by omega) | refine And.intro ?_ ?_)
  · have ht3 : t = n := by have h3 : decide ((t : Int) < (n : Int)) = false := h3; have := of_decide_eq_false h3; omega
    subst ht3
    rw [Nat.sub_self, srcF_zero] at hR
    rw [← hR]
    refine AWp.exit ?_
    refine AWp.freeze 62 (fun i => evtC (L.getD i default)) rfl (fun i hi => rfl) ?_
    repeat (first | refine AWp.seq ?_ | refine AWp.block ?_ | refine AWp.skip ?_)
    refine AWp.region ?_
    intro _
    refine AWp.ret ⟨Or.inl rfl, rfl, ?_⟩
    intro _
    rfl
end Go.Proofs.Ytpmbbanoiipepaa

/- What run.Source and SourceRun refuse. Condition: none. -/
namespace Go.Proofs.Ytpmbbanoiipepaa
open Go Go.Abs Go.RowKit Go.Abs.Gra

theorem c_SourceNo (f : Fun) (m : Mch) (hok : Fun.ok f) (h0 : flwF f m ≠ 0) (seed steps : Int) : ACallIs B.P 21 [f.av, m.av, .i64 seed, .i64 steps] (.tup [nilV, .i64 (flwF f m)]) := by
  have hc := c_FlowCheck f m hok
  refine ACallIs.enter B _ _ Try.func21 rfl rfl Try.ntmps21 Try.results21 rfl fun hreal => ?_
  clear hreal
  repeat (first | refine AWp.seq ?_ | refine AWp.block ?_ | refine AWp.skip ?_)
  refine AWp.region ?_
  intro _
  refine AWp.freezeObj 4 rfl rfl ?_
  refine AWp.freezeObj 5 rfl rfl ?_
  repeat (first | refine AWp.seq ?_ | refine AWp.block ?_ | refine AWp.skip ?_)
  refine AWp.region ?_
  refine CallX.pure hc rfl rfl rfl ?_
  intro _
  repeat (first | refine AWp.seq ?_ | refine AWp.block ?_ | refine AWp.skip ?_)
  refine AWp.region ?_
  intro _
  repeat (first | refine AWp.seq ?_ | refine AWp.block ?_ | refine AWp.skip ?_)
  refine AWp.cond (And.intro (fun h1 => ?_) (fun h1 => ?_))
  · repeat (first | refine AWp.seq ?_ | refine AWp.block ?_ | refine AWp.skip ?_)
    refine AWp.region ?_
    intro _
    refine AWp.ret ⟨Or.inl rfl, rfl, ?_⟩
    intro _
    rfl
  · exfalso
    have h1 : (flwF f m != 0) = false := h1
    exact h0 (by simpa using h1)
theorem c_SourceFar (f : Fun) (m : Mch) (hok : Fun.ok f) (h0 : flwF f m = 0) (seed steps : Int) (hs : steps < 0 ∨ 5000 < steps) : ACallIs B.P 21 [f.av, m.av, .i64 seed, .i64 steps] (.tup [nilV, .i64 2]) := by
  have hc := c_FlowCheck f m hok
  rw [h0] at hc
  refine ACallIs.enter B _ _ Try.func21 rfl rfl Try.ntmps21 Try.results21 rfl fun hreal => ?_
  clear hreal
  repeat (first | refine AWp.seq ?_ | refine AWp.block ?_ | refine AWp.skip ?_)
  refine AWp.region ?_
  intro _
  refine AWp.freezeObj 4 rfl rfl ?_
  refine AWp.freezeObj 5 rfl rfl ?_
  repeat (first | refine AWp.seq ?_ | refine AWp.block ?_ | refine AWp.skip ?_)
  refine AWp.region ?_
  refine CallX.pure hc rfl rfl rfl ?_
  intro _
  repeat (first | refine AWp.seq ?_ | refine AWp.block ?_ | refine AWp.skip ?_)
  refine AWp.region ?_
  intro _
  repeat (first | refine AWp.seq ?_ | refine AWp.block ?_ | refine AWp.skip ?_)
  refine AWp.cond (And.intro (fun h1 => ?_) (fun h1 => ?_))
  · cases h1
  repeat (first | refine AWp.seq ?_ | refine AWp.block ?_ | refine AWp.skip ?_)
  refine AWp.region ?_
  repeat' refine And.intro ?_ ?_
  all_goals first | exact fun h => h | exact gT | exact gF | exact fun h => h | skip
  intro _
  repeat (first | refine AWp.seq ?_ | refine AWp.block ?_ | refine AWp.skip ?_)
  refine AWp.cond (And.intro (fun h2 => ?_) (fun h2 => ?_))
  · repeat (first | refine AWp.seq ?_ | refine AWp.block ?_ | refine AWp.skip ?_)
    refine AWp.region ?_
    intro _
    refine AWp.ret ⟨Or.inl rfl, rfl, ?_⟩
    intro _
    rfl
  · exfalso
    have h2 : (bif decide (steps < 0) then true else decide (steps > 5000)) = false := h2
    rcases hs with hs | hs
    · rw [decide_eq_true hs] at h2; cases h2
    · rw [decide_eq_false (by omega), decide_eq_true (by omega)] at h2; cases h2
theorem c_SourceRunNo (f : Fun) (m : Mch) (hok : Fun.ok f) (h0 : flwF f m ≠ 0) (seed steps : Int) : ACallIs B.P 22 [f.av, m.av, .i64 seed, .i64 steps] (.tup [nilV, .i64 (flwF f m)]) := by
  have hc := c_FuncFault f m hok
  have hb0 : (flwF f m == 0) = false := by simpa using h0
  refine ACallIs.enter B _ _ Try.func22 rfl rfl Try.ntmps22 Try.results22 rfl fun hreal => ?_
  clear hreal
  repeat (first | refine AWp.seq ?_ | refine AWp.block ?_ | refine AWp.skip ?_)
  refine AWp.region ?_
  intro _
  refine AWp.freezeObj 4 rfl rfl ?_
  refine AWp.freezeObj 5 rfl rfl ?_
  repeat (first | refine AWp.seq ?_ | refine AWp.block ?_ | refine AWp.skip ?_)
  refine AWp.region ?_
  refine CallX.pure hc rfl rfl rfl ?_
  intro _
  repeat (first | refine AWp.seq ?_ | refine AWp.block ?_ | refine AWp.skip ?_)
  refine AWp.region ?_
  repeat' (first | refine And.intro ?_ ?_ | refine CallK.intro (fun _ => c_In steps 0 5000) ?_)
  all_goals first | exact fun h => h | exact gT | exact gF | skip
  intro _
  repeat (first | refine AWp.seq ?_ | refine AWp.block ?_ | refine AWp.skip ?_)
  refine AWp.cond (And.intro (fun h1 => ?_) (fun h1 => ?_))
  · exfalso
    have h1 : (bif flwF f m == 0 then !inB steps 0 5000 else false) = true := h1
    rw [hb0] at h1
    cases h1
  repeat (first | refine AWp.seq ?_ | refine AWp.block ?_ | refine AWp.skip ?_)
  refine AWp.region ?_
  intro _
  repeat (first | refine AWp.seq ?_ | refine AWp.block ?_ | refine AWp.skip ?_)
  refine AWp.cond (And.intro (fun h2 => ?_) (fun h2 => ?_))
  · repeat (first | refine AWp.seq ?_ | refine AWp.block ?_ | refine AWp.skip ?_)
    refine AWp.region ?_
    intro _
    refine AWp.ret ⟨Or.inl rfl, rfl, ?_⟩
    intro _
    rfl
  · exfalso
    have h2 : (flwF f m != 0) = false := h2
    exact h0 (by simpa using h2)
theorem c_SourceRunFar (f : Fun) (m : Mch) (hok : Fun.ok f) (h0 : flwF f m = 0) (seed steps : Int) (hs : steps < 0 ∨ 5000 < steps) : ACallIs B.P 22 [f.av, m.av, .i64 seed, .i64 steps] (.tup [nilV, .i64 2]) := by
  have hc := c_FuncFault f m hok
  rw [h0] at hc
  refine ACallIs.enter B _ _ Try.func22 rfl rfl Try.ntmps22 Try.results22 rfl fun hreal => ?_
  clear hreal
  repeat (first | refine AWp.seq ?_ | refine AWp.block ?_ | refine AWp.skip ?_)
  refine AWp.region ?_
  intro _
  refine AWp.freezeObj 4 rfl rfl ?_
  refine AWp.freezeObj 5 rfl rfl ?_
  repeat (first | refine AWp.seq ?_ | refine AWp.block ?_ | refine AWp.skip ?_)
  refine AWp.region ?_
  refine CallX.pure hc rfl rfl rfl ?_
  intro _
  repeat (first | refine AWp.seq ?_ | refine AWp.block ?_ | refine AWp.skip ?_)
  refine AWp.region ?_
  repeat' (first | refine And.intro ?_ ?_ | refine CallK.intro (fun _ => c_In steps 0 5000) ?_)
  all_goals first | exact fun h => h | exact gT | exact gF | skip
  intro _
  repeat (first | refine AWp.seq ?_ | refine AWp.block ?_ | refine AWp.skip ?_)
  refine AWp.cond (And.intro (fun h1 => ?_) (fun h1 => ?_))
  · repeat (first | refine AWp.seq ?_ | refine AWp.block ?_ | refine AWp.skip ?_)
    refine AWp.region ?_
    intro _
    repeat (first | refine AWp.seq ?_ | refine AWp.block ?_ | refine AWp.skip ?_)
    refine AWp.region ?_
    intro _
    repeat (first | refine AWp.seq ?_ | refine AWp.block ?_ | refine AWp.skip ?_)
    refine AWp.cond (And.intro (fun h2 => ?_) (fun h2 => ?_))
    · repeat (first | refine AWp.seq ?_ | refine AWp.block ?_ | refine AWp.skip ?_)
      refine AWp.region ?_
      intro _
      refine AWp.ret ⟨Or.inl rfl, rfl, ?_⟩
      intro _
      rfl
    · cases h2
  · exfalso
    have h1 : (!inB steps 0 5000) = false := h1
    unfold inB at h1; grind
theorem c_sameEvNil : ACallIs B.P 23 [nilV, nilV] (.bool true) := by
  refine ACallIs.enter B _ _ Try.func23 rfl rfl Try.ntmps23 Try.results23 rfl fun hreal => ?_
  clear hreal
  repeat (first | refine AWp.seq ?_ | refine AWp.block ?_ | refine AWp.skip ?_)
  refine AWp.region ?_
  intro _
  repeat (first | refine AWp.seq ?_ | refine AWp.block ?_ | refine AWp.skip ?_)
  refine AWp.region ?_
  intro _
  repeat (first | refine AWp.seq ?_ | refine AWp.block ?_ | refine AWp.skip ?_)
  refine AWp.cond (And.intro (fun h => ?_) (fun h => ?_))
  · cases h
  repeat (first | refine AWp.seq ?_ | refine AWp.block ?_ | refine AWp.skip ?_)
  refine AWp.region ?_
  intro _
  repeat (first | refine AWp.seq ?_ | refine AWp.block ?_ | refine AWp.skip ?_)
  refine AWp.loop (fun k : Nat => ⟨[(0, nilV), (1, nilV), (5, .i64 (0 : Nat))], []⟩) (fun k => True) (fun k => 0) 0 trivial ?_ ?_
  · repeat' (first | exact rfl | exact trivial | refine And.intro ?_ ?_)
  intro k hk
  repeat (first | refine AWp.seq ?_ | refine AWp.block ?_ | refine AWp.skip ?_)
  refine AWp.region ?_
  intro _
  repeat (first | refine AWp.seq ?_ | refine AWp.block ?_ | refine AWp.skip ?_)
  refine AWp.cond (And.intro (fun h1 => ?_) (fun h1 => ?_))
  · cases h1
  refine AWp.exit ?_
  repeat (first | refine AWp.seq ?_ | refine AWp.block ?_ | refine AWp.skip ?_)
  refine AWp.region ?_
  intro _
  refine AWp.ret ⟨Or.inl rfl, rfl, ?_⟩
  intro _
  rfl
/-- No event reads more than an instruction has operands. -/
theorem srcF_ok {f : Fun} (hC : Chkd f) (seed : Int) : ∀ (k b p : Nat) (g : Nat → Int) (L : List Evt), b < f.Blocks.length → p ≤ (f.Blocks.getD b default).Instrs.length → (∀ e ∈ L, e.read.length ≤ 6) → (∀ e ∈ srcF f seed k b p g L, e.read.length ≤ 6) ∧ (srcF f seed k b p g L).length ≤ L.length + k := by
  intro k
  induction k with
  | zero => intro b p g L _ _ hL; rw [srcF_zero]; exact ⟨hL, Nat.le_refl _⟩
  | succ k ih =>
    intro b p g L hb hp hL
    have hedge : ∀ (ed : Int) (g2 : Nat → Int) (L2 : List Evt), (∀ e ∈ L2, e.read.length ≤ 6) → ((f.Blocks.getD b default).Edges.length = 0 ∨ (0 ≤ ed ∧ ed < (f.Blocks.getD b default).Edges.length)) → (∀ e ∈ conF f seed k b ed g2 L2, e.read.length ≤ 6) ∧ (conF f seed k b ed g2 L2).length ≤ L2.length + k := by
      intro ed g2 L2 hL2 he
      unfold conF
      split
      · exact ⟨hL2, by omega⟩
      · have hen : ed.toNat < (f.Blocks.getD b default).Edges.length := by omega
        have := hC.e.edge b ed.toNat hb hen
        exact ih _ _ _ _ (by omega) (Nat.zero_le _) hL2
    cases p with
    | zero =>
      rw [srcF_in]
      split
      · rename_i h
        have := ih b 1 g L hb h hL
        exact ⟨this.1, by omega⟩
      · have := hedge 0 g L hL (by omega)
        exact ⟨this.1, by omega⟩
    | succ p =>
      rw [srcF_at]
      have hL2 : ∀ e ∈ L ++ [evAt f seed g b p], e.read.length ≤ 6 := by
        intro e he
        rcases List.mem_append.1 he with he | he
        · exact hL e he
        · simp only [List.mem_singleton] at he
          subst he
          exact Nat.le_trans readF_len (hC.e.siz.ops b p hb (by omega))
      split
      · rename_i h
        have := ih b (p + 2) (dfAt f seed g b p) _ hb h hL2
        simp only [List.length_append, List.length_singleton] at this
        exact ⟨this.1, by omega⟩
      · rename_i h
        have := hedge (evAt f seed g b p).edge (dfAt f seed g b p) _ hL2 (by
          by_cases he : (f.Blocks.getD b default).Edges.length = 0
          · exact .inl he
          · exact .inr (takes_lt (by omega) (by omega)))
        have hl : (L ++ [evAt f seed g b p]).length = L.length + 1 := by simp
        rw [hl] at this
        exact ⟨this.1, by omega⟩
end Go.Proofs.Ytpmbbanoiipepaa
