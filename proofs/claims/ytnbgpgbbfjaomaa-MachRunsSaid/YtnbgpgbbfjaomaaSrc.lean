/- run.Source and the document's SourceRun. Condition: none for what is refused; else a checked function. -/
import Derived.Test.YtnbgpgbbfjaomaaRun
set_option linter.unusedVariables false
set_option linter.unusedSimpArgs false
/- Contract of run.Source. Condition: a checked function; steps within bounds. -/
namespace Go.Proofs.Ytnbgpgbbfjaomaa
open Go Go.Abs Go.RowKit Go.Abs.Gra

theorem par_rng {f : Fun} (h : Chkd f) {k q : Nat} (hk : k < f.Blocks.length) (hq : q < (f.Blocks.getD k default).Params.length) : 0 ≤ (f.Blocks.getD k default).Params.getD q default ∧ (f.Blocks.getD k default).Params.getD q default < f.Values.length :=
  h.rng (ev_param hk (getD_mem hq))
end Go.Proofs.Ytnbgpgbbfjaomaa

/- Contract of the document's SourceRun. Condition: a checked function; steps within bounds. -/
namespace Go.Proofs.Ytnbgpgbbfjaomaa
open Go Go.Abs Go.RowKit Go.Abs.Gra

end Go.Proofs.Ytnbgpgbbfjaomaa

/- What run.Source and SourceRun refuse. Condition: none. -/
namespace Go.Proofs.Ytnbgpgbbfjaomaa
open Go Go.Abs Go.RowKit Go.Abs.Gra

theorem c_sameEvNil : ACallIs B.P 17 [nilV, nilV] (.bool true) := by
  refine ACallIs.enter B _ _ Try.func17 rfl rfl Try.ntmps17 Try.results17 rfl fun hreal => ?_
  clear hreal
  repeat (first | refine AWp.seq ?_ | refine AWp.block ?_ | refine AWp.skip ?_)
  refine AWp.region ?_
  intro _
  repeat (first | refine AWp.seq ?_ | refine AWp.block ?_ | refine AWp.skip ?_)
  refine AWp.region ?_
  intro _
  repeat (first | refine AWp.seq ?_ | refine AWp.block ?_ | refine AWp.skip ?_)
  refine AWp.cond (And.intro (fun h => ?_) (fun h => ?_))
  · cases h
  repeat (first | refine AWp.seq ?_ | refine AWp.block ?_ | refine AWp.skip ?_)
  refine AWp.region ?_
  intro _
  repeat (first | refine AWp.seq ?_ | refine AWp.block ?_ | refine AWp.skip ?_)
  refine AWp.loop (fun k : Nat => ⟨[(0, nilV), (1, nilV), (5, .i64 (0 : Nat))], []⟩) (fun k => True) (fun k => 0) 0 trivial ?_ ?_
  · repeat' (first | exact rfl | exact trivial | refine And.intro ?_ ?_)
  intro k hk
  repeat (first | refine AWp.seq ?_ | refine AWp.block ?_ | refine AWp.skip ?_)
  refine AWp.region ?_
  intro _
  repeat (first | refine AWp.seq ?_ | refine AWp.block ?_ | refine AWp.skip ?_)
  refine AWp.cond (And.intro (fun h1 => ?_) (fun h1 => ?_))
  · cases h1
  refine AWp.exit ?_
  repeat (first | refine AWp.seq ?_ | refine AWp.block ?_ | refine AWp.skip ?_)
  refine AWp.region ?_
  intro _
  refine AWp.ret ⟨Or.inl rfl, rfl, ?_⟩
  intro _
  rfl
/-- No event reads more than an instruction has operands. -/
theorem srcF_ok {f : Fun} (hC : Chkd f) (seed : Int) : ∀ (k b p : Nat) (g : Nat → Int) (L : List Evt), b < f.Blocks.length → p ≤ (f.Blocks.getD b default).Instrs.length → (∀ e ∈ L, e.read.length ≤ 6) → (∀ e ∈ srcF f seed k b p g L, e.read.length ≤ 6) ∧ (srcF f seed k b p g L).length ≤ L.length + k := by
  intro k
  induction k with
  | zero => intro b p g L _ _ hL; rw [srcF_zero]; exact ⟨hL, Nat.le_refl _⟩
  | succ k ih =>
    intro b p g L hb hp hL
    have hedge : ∀ (ed : Int) (g2 : Nat → Int) (L2 : List Evt), (∀ e ∈ L2, e.read.length ≤ 6) → ((f.Blocks.getD b default).Edges.length = 0 ∨ (0 ≤ ed ∧ ed < (f.Blocks.getD b default).Edges.length)) → (∀ e ∈ conF f seed k b ed g2 L2, e.read.length ≤ 6) ∧ (conF f seed k b ed g2 L2).length ≤ L2.length + k := by
      intro ed g2 L2 hL2 he
      unfold conF
      split
      · exact ⟨hL2, by omega⟩
      · have hen : ed.toNat < (f.Blocks.getD b default).Edges.length := by omega
        have := hC.e.edge b ed.toNat hb hen
        exact ih _ _ _ _ (by omega) (Nat.zero_le _) hL2
    cases p with
    | zero =>
      rw [srcF_in]
      split
      · rename_i h
        have := ih b 1 g L hb h hL
        exact ⟨this.1, by omega⟩
      · have := hedge 0 g L hL (by omega)
        exact ⟨this.1, by omega⟩
    | succ p =>
      rw [srcF_at]
      have hL2 : ∀ e ∈ L ++ [evAt f seed g b p], e.read.length ≤ 6 := by
        intro e he
        rcases List.mem_append.1 he with he | he
        · exact hL e he
        · simp only [List.mem_singleton] at he
          subst he
          exact Nat.le_trans readF_len (hC.e.siz.ops b p hb (by omega))
      split
      · rename_i h
        have := ih b (p + 2) (dfAt f seed g b p) _ hb h hL2
        simp only [List.length_append, List.length_singleton] at this
        exact ⟨this.1, by omega⟩
      · rename_i h
        have := hedge (evAt f seed g b p).edge (dfAt f seed g b p) _ hL2 (by
          by_cases he : (f.Blocks.getD b default).Edges.length = 0
          · exact .inl he
          · exact .inr (takes_lt (by omega) (by omega)))
        have hl : (L ++ [evAt f seed g b p]).length = L.length + 1 := by simp
        rw [hl] at this
        exact ⟨this.1, by omega⟩
end Go.Proofs.Ytnbgpgbbfjaomaa
