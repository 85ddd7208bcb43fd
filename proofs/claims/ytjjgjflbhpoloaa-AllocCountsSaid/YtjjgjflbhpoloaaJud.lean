/- judge.Known: what is surely known; the contracts of judge's walk. Condition: an output that may be. -/
import Derived.Test.YtjjgjflbhpoloaaMru
import Derived.Test.YtjjgjflbhpoloaaBit
set_option linter.unusedVariables false
set_option linter.unusedSimpArgs false
namespace Go.Proofs.Ytjjgjflbhpoloaa
open Go Go.Abs Go.RowKit Go.Abs.Gra
theorem zi {a b : Prop} (h : a) (g : b) : a ∧ b := ⟨h, g⟩
theorem zt : True := True.intro
abbrev Knw := Nat → Nat → Bool
def setK (K : Knw) (c : Nat) (R : Nat → Bool) : Knw := fun j => if j = c then R else K j
def mvK (e : Edt) (K : Knw) : Nat → Knw
 | 0 => K
 | k + 1 => setK (mvK e K k) (celF (e.Moves.getD k default).To) (mvK e K k (celF (e.Moves.getD k default).From))
def edK (l : List Edt) (b a : Nat) (K : Knw) : Nat → Knw
 | 0 => K
 | i + 1 => if (l.getD i default).Block = b ∧ (l.getD i default).At = a then mvK (l.getD i default) (edK l b a K i) (l.getD i default).Moves.length else edK l b a K i
theorem edK_yes {l : List Edt} {b a : Nat} {K : Knw} {i : Nat} (h : (l.getD i default).Block = b ∧ (l.getD i default).At = a) : edK l b a K (i + 1) = mvK (l.getD i default) (edK l b a K i) (l.getD i default).Moves.length := if_pos h
theorem edK_no {l : List Edt} {b a : Nat} {K : Knw} {i : Nat} (h : ¬ ((l.getD i default).Block = b ∧ (l.getD i default).At = a)) : edK l b a K (i + 1) = edK l b a K i := if_neg h
def dwK (x : Ins) (p : List Plc) (K : Knw) : Nat → Knw
 | 0 => K
 | k + 1 => if (x.Operands.getD k default).Kind = 2 ∧ (x.Operands.getD k default).Late = false then setK (dwK x p K k) (celF (p.getD k default)) nonS else dwK x p K k
theorem dwK_yes {x : Ins} {p : List Plc} {K : Knw} {k : Nat} (h : (x.Operands.getD k default).Kind = 2 ∧ (x.Operands.getD k default).Late = false) : dwK x p K (k + 1) = setK (dwK x p K k) (celF (p.getD k default)) nonS := if_pos h
theorem dwK_no {x : Ins} {p : List Plc} {K : Knw} {k : Nat} (h : ¬ ((x.Operands.getD k default).Kind = 2 ∧ (x.Operands.getD k default).Late = false)) : dwK x p K (k + 1) = dwK x p K k := if_neg h
@[reducible] def celR (r : Rg) : Nat := 11 * r.Class.toNat + r.N.toNat
def spK (l : List Rg) (K : Knw) : Nat → Knw
 | 0 => K
 | k + 1 => setK (spK l K k) (celR (l.getD k default)) nonS
def mkK1 (K : Knw) (v c : Nat) : Knw := setK (fun j => dropS (K j) v) c (putS nonS v)
def dfK (x : Ins) (p : List Plc) (K : Knw) : Nat → Knw
 | 0 => K
 | k + 1 => if (x.Operands.getD k default).Kind = 2 then mkK1 (dfK x p K k) (x.Operands.getD k default).Value.toNat (celF (p.getD k default)) else dfK x p K k
theorem dfK_yes {x : Ins} {p : List Plc} {K : Knw} {k : Nat} (h : (x.Operands.getD k default).Kind = 2) : dfK x p K (k + 1) = mkK1 (dfK x p K k) (x.Operands.getD k default).Value.toNat (celF (p.getD k default)) := if_pos h
theorem dfK_no {x : Ins} {p : List Plc} {K : Knw} {k : Nat} (h : ¬ (x.Operands.getD k default).Kind = 2) : dfK x p K (k + 1) = dfK x p K k := if_neg h
section
variable (f : Fun) (o : Oup)
@[reducible] def edKA (b a : Nat) (K : Knw) : Knw := edK o.Edits b a K o.Edits.length
@[reducible] def spKA (b a : Nat) (K : Knw) : Knw := spK (insAt f b a).Spoils (dwK (insAt f b a) (plAt o b a) K (insAt f b a).Operands.length) (insAt f b a).Spoils.length
def okK (x : Ins) (p : List Plc) (K0 K2 : Knw) (k : Nat) : Bool :=
 (x.Operands.getD k default).Kind == 2 || (bif (x.Operands.getD k default).Late then K2 else K0) (celF (p.getD k default)) (x.Operands.getD k default).Value.toNat
@[reducible] def okA (b a : Nat) (K : Knw) (k : Nat) : Bool := okK (insAt f b a) (plAt o b a) K (spKA f o b a K) k
@[reducible] def inKA (b a : Nat) (K : Knw) : Knw := dfK (insAt f b a) (plAt o b a) (spKA f o b a K) (insAt f b a).Operands.length
def thI (b : Nat) (K : Knw) : Nat → Knw
 | 0 => K
 | a + 1 => inKA f o b a (edKA o b a (thI b K a))
@[reducible] def thK (b : Nat) (K : Knw) : Knw := edKA o b (f.Blocks.getD b default).Instrs.length (thI f o b K (f.Blocks.getD b default).Instrs.length)
def drP (ps : List Int) (R : Nat → Bool) : Nat → Nat → Bool
 | 0 => R
 | k + 1 => dropS (drP ps R k) (ps.getD k default).toNat
def ptP (ps az : List Int) (R0 R : Nat → Bool) : Nat → Nat → Bool
 | 0 => R
 | k + 1 => if R0 (az.getD k default).toNat = true then putS (ptP ps az R0 R k) (ps.getD k default).toNat else ptP ps az R0 R k
theorem ptP_yes {ps az : List Int} {R0 R : Nat → Bool} {k : Nat} (h : R0 (az.getD k default).toNat = true) : ptP ps az R0 R (k + 1) = putS (ptP ps az R0 R k) (ps.getD k default).toNat := if_pos h
theorem ptP_no {ps az : List Int} {R0 R : Nat → Bool} {k : Nat} (h : ¬ R0 (az.getD k default).toNat = true) : ptP ps az R0 R (k + 1) = ptP ps az R0 R k := if_neg h
@[reducible] def alR (ps az : List Int) (R : Nat → Bool) : Nat → Bool := ptP ps az R (drP ps R ps.length) ps.length
@[reducible] def alK (e : Edg) (K : Knw) : Knw := fun c => alR (edgP f e) e.Args (K c)
end
theorem drP_iff {ps : List Int} {R : Nat → Bool} {v : Nat} : ∀ k, k ≤ ps.length → (drP ps R k v = true ↔ R v = true ∧ ∀ j, j < k → (ps.getD j default).toNat ≠ v)
 | 0, _ => by simp [drP]
 | k + 1, hk => by
  have ih := drP_iff (ps := ps) (R := R) (v := v) k (by omega)
  show (drP ps R k v && !decide (v = (ps.getD k default).toNat)) = true ↔ _
  rw [Bool.and_eq_true, ih]
  simp only [Bool.not_eq_true', decide_eq_false_iff_not]
  constructor
  ·rintro ⟨⟨h1, h2⟩, h3⟩
   refine ⟨h1, fun j hj => ?_⟩
   by_cases e : j = k
   ·subst e; exact fun h => h3 h.symm
   ·exact h2 j (by omega)
  ·rintro ⟨h1, h2⟩
   exact ⟨⟨h1, fun j hj => h2 j (by omega)⟩, fun h => h2 k (by omega) h.symm⟩
theorem ptP_iff {ps az : List Int} {R0 R : Nat → Bool} {v : Nat} : ∀ k, ptP ps az R0 R k v = true ↔ R v = true ∨ ∃ j, j < k ∧ (ps.getD j default).toNat = v ∧ R0 (az.getD j default).toNat = true
 | 0 => by simp [ptP]
 | k + 1 => by
  have ih := ptP_iff (ps := ps) (az := az) (R0 := R0) (R := R) (v := v) k
  by_cases h : R0 (az.getD k default).toNat = true
  ·rw [ptP_yes h]
   show (ptP ps az R0 R k v || decide (v = (ps.getD k default).toNat)) = true ↔ _
   rw [Bool.or_eq_true, ih, decide_eq_true_iff]
   constructor
   ·rintro ((h1 | ⟨j, h1, h2⟩) | h1)
    ·exact .inl h1
    ·exact .inr ⟨j, by omega, h2⟩
    ·exact .inr ⟨k, by omega, h1.symm, h⟩
   ·rintro (h1 | ⟨j, h1, h2, h3⟩)
    ·exact .inl (.inl h1)
    ·by_cases e : j = k
     ·subst e; exact .inr h2.symm
     ·exact .inl (.inr ⟨j, by omega, h2, h3⟩)
  ·rw [ptP_no h, ih]
   constructor
   ·rintro (h1 | ⟨j, h1, h2⟩)
    ·exact .inl h1
    ·exact .inr ⟨j, by omega, h2⟩
   ·rintro (h1 | ⟨j, h1, h2, h3⟩)
    ·exact .inl h1
    ·by_cases e : j = k
     ·subst e; exact absurd h3 h
     ·exact .inr ⟨j, by omega, h2, h3⟩
theorem alR_iff {ps az : List Int} {R : Nat → Bool} {v : Nat} : alR ps az R v = true ↔ (R v = true ∧ ∀ j, j < ps.length → (ps.getD j default).toNat ≠ v) ∨ ∃ j, j < ps.length ∧ (ps.getD j default).toNat = v ∧ R (az.getD j default).toNat = true := by
 show ptP _ _ _ _ _ v = true ↔ _
 rw [ptP_iff, drP_iff _ (Nat.le_refl _)]
def Le (N V : Nat) (K L : Knw) : Prop := ∀ c v, c < N → v < V → K c v = true → L c v = true
theorem Le.refl {N V : Nat} {K : Knw} : Le N V K K := fun _ _ _ _ h => h
theorem Le.trans {N V : Nat} {K L M : Knw} (h : Le N V K L) (g : Le N V L M) : Le N V K M := fun c v hc hv hk => g c v hc hv (h c v hc hv hk)
theorem setK_le {N V : Nat} {K L : Knw} (h : Le N V K L) {c : Nat} {R S : Nat → Bool} (hr : ∀ v, v < V → R v = true → S v = true) : Le N V (setK K c R) (setK L c S) := by
 intro j v hj hv hk
 unfold setK at *
 by_cases e : j = c
 ·rw [if_pos e] at *; exact hr v hv hk
 ·rw [if_neg e] at *; exact h j v hj hv hk
section
variable {N V : Nat} {K L : Knw}
theorem mvK_le {e : Edt} (h : Le N V K L) (hp : ∀ k, k < e.Moves.length → celF (e.Moves.getD k default).From < N) : ∀ k, k ≤ e.Moves.length → Le N V (mvK e K k) (mvK e L k)
 | 0, _ => h
 | k + 1, hk => by
  have ih := mvK_le h hp k (by omega)
  exact setK_le ih fun v hv => ih _ v (hp k (by omega)) hv
theorem edK_le {l : List Edt} {b a : Nat} (h : Le N V K L) (hp : ∀ i k, i < l.length → k < (l.getD i default).Moves.length → celF ((l.getD i default).Moves.getD k default).From < N) : ∀ i, i ≤ l.length → Le N V (edK l b a K i) (edK l b a L i)
 | 0, _ => h
 | i + 1, hi => by
  have ih := edK_le (b := b) (a := a) h hp i (by omega)
  by_cases g : (l.getD i default).Block = b ∧ (l.getD i default).At = a
  ·rw [edK_yes g, edK_yes g]; exact mvK_le ih (fun k hk => hp i k (by omega) hk) _ (Nat.le_refl _)
  ·rw [edK_no g, edK_no g]; exact ih
theorem dwK_le {x : Ins} {p : List Plc} (h : Le N V K L) : ∀ k, Le N V (dwK x p K k) (dwK x p L k)
 | 0 => h
 | k + 1 => by
  have ih := dwK_le (x := x) (p := p) h k
  by_cases g : (x.Operands.getD k default).Kind = 2 ∧ (x.Operands.getD k default).Late = false
  ·rw [dwK_yes g, dwK_yes g]; exact setK_le ih fun v hv h => h
  ·rw [dwK_no g, dwK_no g]; exact ih
theorem spK_le {l : List Rg} (h : Le N V K L) : ∀ k, Le N V (spK l K k) (spK l L k)
 | 0 => h
 | k + 1 => setK_le (spK_le h k) fun v hv h => h
theorem dfK_le {x : Ins} {p : List Plc} (h : Le N V K L) : ∀ k, Le N V (dfK x p K k) (dfK x p L k)
 | 0 => h
 | k + 1 => by
  have ih := dfK_le (x := x) (p := p) h k
  by_cases g : (x.Operands.getD k default).Kind = 2
  ·rw [dfK_yes g, dfK_yes g]
   refine setK_le (fun c v hc hv hk => ?_) fun v hv h => h
   simp only [dropS, Bool.and_eq_true] at hk ⊢
   exact ⟨ih c v hc hv hk.1, hk.2⟩
  ·rw [dfK_no g, dfK_no g]; exact ih
theorem alK_le {f : Fun} {e : Edg} (h : Le N V K L) (ha : ∀ j, j < (edgP f e).length → (e.Args.getD j default).toNat < V) : Le N V (alK f e K) (alK f e L) := by
 intro c v hc hv hk
 rw [alR_iff] at hk ⊢
 rcases hk with ⟨h1, h2⟩ | ⟨j, h1, h2, h3⟩
 ·exact .inl ⟨h c v hc hv h1, h2⟩
 ·exact .inr ⟨j, h1, h2, h _ _ hc (ha j h1) h3⟩
end
def Spt (V : Nat) (K : Knw) : Prop := ∀ c v, V ≤ v → K c v = false
theorem setK_spt {V : Nat} {K : Knw} (h : Spt V K) {c : Nat} {R : Nat → Bool} (hr : ∀ v, V ≤ v → R v = false) : Spt V (setK K c R) := by
 intro j v hv
 unfold setK
 by_cases e : j = c
 ·rw [if_pos e]; exact hr v hv
 ·rw [if_neg e]; exact h j v hv
section
variable {V : Nat} {K : Knw}
theorem mvK_spt {e : Edt} (h : Spt V K) : ∀ k, Spt V (mvK e K k)
 | 0 => h
 | k + 1 => setK_spt (mvK_spt h k) fun v hv => mvK_spt h k _ v hv
theorem edK_spt {l : List Edt} {b a : Nat} (h : Spt V K) : ∀ i, Spt V (edK l b a K i)
 | 0 => h
 | i + 1 => by
  by_cases g : (l.getD i default).Block = b ∧ (l.getD i default).At = a
  ·rw [edK_yes g]; exact mvK_spt (edK_spt h i) _
  ·rw [edK_no g]; exact edK_spt h i
theorem dwK_spt {x : Ins} {p : List Plc} (h : Spt V K) : ∀ k, Spt V (dwK x p K k)
 | 0 => h
 | k + 1 => by
  by_cases g : (x.Operands.getD k default).Kind = 2 ∧ (x.Operands.getD k default).Late = false
  ·rw [dwK_yes g]; exact setK_spt (dwK_spt h k) fun v hv => rfl
  ·rw [dwK_no g]; exact dwK_spt h k
theorem spK_spt {l : List Rg} (h : Spt V K) : ∀ k, Spt V (spK l K k)
 | 0 => h
 | k + 1 => setK_spt (spK_spt h k) fun v hv => rfl
theorem dfK_spt {x : Ins} {p : List Plc} (h : Spt V K) (hv : ∀ j, j < x.Operands.length → (x.Operands.getD j default).Value.toNat < V) : ∀ k, k ≤ x.Operands.length → Spt V (dfK x p K k)
 | 0, _ => h
 | k + 1, hk => by
  have ih := dfK_spt (p := p) h hv k (by omega)
  by_cases g : (x.Operands.getD k default).Kind = 2
  ·rw [dfK_yes g]
   refine setK_spt (fun c v hc => by simp only [dropS, ih c v hc, Bool.false_and]) fun v h2 => ?_
   have := hv k (by omega)
   simp only [putS, nonS, Bool.false_or]
   exact decide_eq_false (by omega)
  ·rw [dfK_no g]; exact ih
theorem alK_spt {f : Fun} {e : Edg} (h : Spt V K) (hp : ∀ j, j < (edgP f e).length → ((edgP f e).getD j default).toNat < V) : Spt V (alK f e K) := by
 intro c v hv
 refine Bool.eq_false_iff.2 fun hk => ?_
 rw [alR_iff] at hk
 rcases hk with ⟨h1, h2⟩ | ⟨j, h1, h2, h3⟩
 ·rw [h c v hv] at h1; cases h1
 ·have := hp j h1; omega
end
section
variable {f : Fun} {m : Mch} {o : Oup} {fr : Nat}
theorem thI_le (hO : OutOk f m o fr) {b : Nat} (hb : b < f.Blocks.length) {V : Nat} {K L : Knw} (h : Le (22 + fr) V K L) : ∀ a, a ≤ (f.Blocks.getD b default).Instrs.length → Le (22 + fr) V (thI f o b K a) (thI f o b L a)
 | 0, _ => h
 | a + 1, ha => dfK_le (spK_le (dwK_le (edK_le (thI_le hO hb h a (by omega)) (fun i k hi hk => (hO.mv i k hi hk).1.lt) _ (Nat.le_refl _)) _) _) _
theorem thK_le (hO : OutOk f m o fr) {b : Nat} (hb : b < f.Blocks.length) {V : Nat} {K L : Knw} (h : Le (22 + fr) V K L) : Le (22 + fr) V (thK f o b K) (thK f o b L) :=
 edK_le (thI_le hO hb h _ (Nat.le_refl _)) (fun i k hi hk => (hO.mv i k hi hk).1.lt) _ (Nat.le_refl _)
theorem opv_lt (hC : Chkd f) {b a : Nat} (hb : b < f.Blocks.length) (ha : a < (f.Blocks.getD b default).Instrs.length) : ∀ j, j < (insAt f b a).Operands.length → ((insAt f b a).Operands.getD j default).Value.toNat < f.Values.length := fun j hj => by
 have h := idx_ok (hC.opv b a j hb ha hj)
 show (((f.Blocks.getD b default).Instrs.getD a default).Operands.getD j default).Value.toNat < _
 omega
theorem thI_spt (hC : Chkd f) {b : Nat} (hb : b < f.Blocks.length) {K : Knw} (h : Spt f.Values.length K) : ∀ a, a ≤ (f.Blocks.getD b default).Instrs.length → Spt f.Values.length (thI f o b K a)
 | 0, _ => h
 | a + 1, ha => dfK_spt (spK_spt (dwK_spt (edK_spt (thI_spt hC hb h a (by omega)) _) _) _) (opv_lt hC hb (by omega)) _ (Nat.le_refl _)
theorem thK_spt (hC : Chkd f) {b : Nat} (hb : b < f.Blocks.length) {K : Knw} (h : Spt f.Values.length K) : Spt f.Values.length (thK f o b K) :=
 edK_spt (thI_spt hC hb h _ (Nat.le_refl _)) _
end
structure Post (f : Fun) (o : Oup) (N : Nat) (A : Nat → Knw) : Prop where
 none : ∀ c v, c < N → v < f.Values.length → A 0 c v = false
 edge : ∀ b k, b < f.Blocks.length → k < (f.Blocks.getD b default).Edges.length → Le N f.Values.length (A ((f.Blocks.getD b default).Edges.getD k default).Block.toNat) (alK f ((f.Blocks.getD b default).Edges.getD k default) (thK f o b (A b)))
noncomputable def sur (f : Fun) (o : Oup) (N : Nat) (b : Nat) : Knw := fun c v => @decide (c < N ∧ v < f.Values.length ∧ ∃ A, Post f o N A ∧ A b c v = true) (Classical.propDecidable _)
section
variable {f : Fun} {m : Mch} {o : Oup} {fr : Nat}
theorem sur_iff {N b c v : Nat} : sur f o N b c v = true ↔ c < N ∧ v < f.Values.length ∧ ∃ A, Post f o N A ∧ A b c v = true := by
 unfold sur; exact @decide_eq_true_iff _ (Classical.propDecidable _)
theorem sur_max {N : Nat} {A : Nat → Knw} (h : Post f o N A) (b : Nat) : Le N f.Values.length (A b) (sur f o N b) := fun c v hc hv hk => sur_iff.2 ⟨hc, hv, A, h, hk⟩
theorem sur_spt (N b : Nat) : Spt f.Values.length (sur f o N b) := fun c v hv => Bool.eq_false_iff.2 fun h => by have := (sur_iff.1 h).2.1; omega
theorem arg_lt (hC : Chkd f) {b k : Nat} (hb : b < f.Blocks.length) (hk : k < (f.Blocks.getD b default).Edges.length) : ∀ j, j < ((f.Blocks.getD b default).Edges.getD k default).Args.length → (((f.Blocks.getD b default).Edges.getD k default).Args.getD j default).toNat < f.Values.length := fun j hj => by
 have h := idx_ok (hC.argv b k j hb hk hj)
 omega
theorem sur_post (hO : OutOk f m o fr) (hl : ∀ b k, b < f.Blocks.length → k < (f.Blocks.getD b default).Edges.length → (edgP f ((f.Blocks.getD b default).Edges.getD k default)).length = ((f.Blocks.getD b default).Edges.getD k default).Args.length) : Post f o (22 + fr) (sur f o (22 + fr)) := by
 have hC := chkd_of hO.chk0
 refine ⟨fun c v hc hv => Bool.eq_false_iff.2 fun h => ?_, fun b k hb hk c v hc hv h => ?_⟩
 ·obtain ⟨_, _, A, hA, h⟩ := sur_iff.1 h
  rw [hA.none c v hc hv] at h; cases h
 ·obtain ⟨_, _, A, hA, h⟩ := sur_iff.1 h
  exact alK_le (thK_le hO hb (sur_max hA b)) (fun j hj => arg_lt hC hb hk j (by rw [← hl b k hb hk]; exact hj)) c v hc hv (hA.edge b k hb hk c v hc hv h)
theorem sur_eq {N : Nat} {A : Nat → Knw} (h : Post f o N A) {b : Nat} (hle : Le N f.Values.length (sur f o N b) (A b)) {c v : Nat} (hc : c < N) (hv : v < f.Values.length) : A b c v = sur f o N b c v := by
 cases e : A b c v with
 | true => exact (sur_max h b c v hc hv e).symm
 | false =>
  refine (Bool.eq_false_iff.2 fun h2 => ?_).symm
  rw [hle c v hc hv h2] at e; cases e
theorem sur_eqS {N : Nat} {A : Nat → Knw} (h : Post f o N A) {b : Nat} (hle : Le N f.Values.length (sur f o N b) (A b)) (hs : Spt f.Values.length (A b)) {c : Nat} (hc : c < N) : A b c = sur f o N b c := by
 funext v
 by_cases hv : v < f.Values.length
 ·exact sur_eq h hle hc hv
 ·rw [hs c v (by omega), sur_spt N b c v (by omega)]
theorem edgP_len (hk : chkF f m = 0) {b k : Nat} (hb : b < f.Blocks.length) (hkk : k < (f.Blocks.getD b default).Edges.length) : (edgP f ((f.Blocks.getD b default).Edges.getD k default)).length = ((f.Blocks.getD b default).Edges.getD k default).Args.length := by
 obtain ⟨h1, h2, h3, h4, h5⟩ := chkF_zero hk
 have hz := (blkF_zero (firstF_zero h4 b hb)).2
 have he : edgF f ((f.Blocks.getD b default).Edges.getD k default) = 0 := firstF_zero hz k hkk
 have := edgF_zero he
 omega
end
def cnB (p : Nat → Bool) : Nat → Nat
 | 0 => 0
 | k + 1 => cnB p k + (p k).toNat
theorem cnB_le {p q : Nat → Bool} : ∀ {n : Nat}, (∀ i, i < n → p i = true → q i = true) → cnB p n ≤ cnB q n
 | 0, _ => Nat.le_refl _
 | n + 1, h => by
  have := cnB_le (n := n) fun i hi => h i (by omega)
  have h2 := h n (by omega)
  show _ + _ ≤ _ + _
  cases hp : p n with
  | false => simp; omega
  | true => rw [h2 hp]; omega
theorem cnB_lt {p q : Nat → Bool} : ∀ {n : Nat}, (∀ i, i < n → p i = true → q i = true) → (∃ i, i < n ∧ p i = false ∧ q i = true) → cnB p n < cnB q n
 | 0, _, ⟨i, hi, _⟩ => absurd hi (by omega)
 | n + 1, h, ⟨i, hi, h1, h2⟩ => by
  show _ + _ < _ + _
  by_cases e : i = n
  ·subst e
   have := cnB_le (n := i) fun j hj => h j (by omega)
   rw [h1, h2]; simp; omega
  ·have := cnB_lt (n := n) (fun j hj => h j (by omega)) ⟨i, by omega, h1, h2⟩
   have h3 := h n (by omega)
   cases hp : p n with
   | false => simp; omega
   | true => rw [h3 hp]; omega
theorem cnB_max {p : Nat → Bool} : ∀ {n : Nat}, cnB p n ≤ n
 | 0 => Nat.le_refl _
 | n + 1 => by
  have := cnB_max (p := p) (n := n)
  show _ + _ ≤ _
  cases p n <;> simp <;> omega
def cn3 (n N V : Nat) (A : Nat → Knw) : Nat := cnB (fun i => A (i / (N * V)) (i / V % N) (i % V)) (n * (N * V))
theorem cn3_le {n N V : Nat} {A C : Nat → Knw} (h : ∀ b c v, b < n → c < N → v < V → A b c v = true → C b c v = true) : cn3 n N V A ≤ cn3 n N V C := by
 refine cnB_le fun i hi => ?_
 rcases Nat.eq_zero_or_pos (N * V) with e | e
 ·rw [e, Nat.mul_zero] at hi; omega
 have hN : 0 < N := Nat.pos_of_ne_zero fun h => by rw [h, Nat.zero_mul] at e; omega
 have hV : 0 < V := Nat.pos_of_ne_zero fun h => by rw [h, Nat.mul_zero] at e; omega
 exact h _ _ _ ((Nat.div_lt_iff_lt_mul e).2 hi) (Nat.mod_lt _ hN) (Nat.mod_lt _ hV)
theorem cn3_lt {n N V : Nat} {A C : Nat → Knw} (h : ∀ b c v, b < n → c < N → v < V → A b c v = true → C b c v = true) {b c v : Nat} (hb : b < n) (hc : c < N) (hv : v < V) (h1 : A b c v = false) (h2 : C b c v = true) : cn3 n N V A < cn3 n N V C := by
 have hV : 0 < V := by omega
 have e1 : (b * (N * V) + (c * V + v)) / (N * V) = b := by
  have hlt : c * V + v < N * V := by
   have : (c + 1) * V ≤ N * V := Nat.mul_le_mul_right _ hc
   rw [Nat.add_mul, Nat.one_mul] at this; omega
  rw [Nat.mul_comm b, Nat.mul_add_div (by omega), Nat.div_eq_of_lt hlt, Nat.add_zero]
 have e2 : (b * (N * V) + (c * V + v)) / V = b * N + c := by
  rw [show b * (N * V) + (c * V + v) = V * (b * N + c) + v by rw [Nat.mul_add, Nat.mul_comm V (b * N), Nat.mul_assoc, Nat.mul_comm V c]; omega, Nat.mul_add_div hV, Nat.div_eq_of_lt hv, Nat.add_zero]
 have e3 : (b * N + c) % N = c := by rw [Nat.mul_comm, Nat.mul_add_mod, Nat.mod_eq_of_lt hc]
 have e4 : (b * (N * V) + (c * V + v)) % V = v := by
  rw [show b * (N * V) + (c * V + v) = V * (b * N + c) + v by rw [Nat.mul_add, Nat.mul_comm V (b * N), Nat.mul_assoc, Nat.mul_comm V c]; omega, Nat.mul_add_mod, Nat.mod_eq_of_lt hv]
 have hlt : b * (N * V) + (c * V + v) < n * (N * V) := by
  have hlt : c * V + v < N * V := by
   have : (c + 1) * V ≤ N * V := Nat.mul_le_mul_right _ hc
   rw [Nat.add_mul, Nat.one_mul] at this; omega
  have : (b + 1) * (N * V) ≤ n * (N * V) := Nat.mul_le_mul_right _ hb
  rw [Nat.add_mul, Nat.one_mul] at this; omega
 refine cnB_lt (fun i hi => ?_) ⟨b * (N * V) + (c * V + v), hlt, ?_, ?_⟩
 ·have e : 0 < N * V := Nat.mul_pos (by omega) hV
  exact h _ _ _ ((Nat.div_lt_iff_lt_mul e).2 hi) (Nat.mod_lt _ (by omega)) (Nat.mod_lt _ hV)
 ·simp only [e1, e2, e3, e4]; exact h1
 ·simp only [e1, e2, e3, e4]; exact h2
theorem cn3_max {n N V : Nat} {A : Nat → Knw} : cn3 n N V A ≤ n * (N * V) := cnB_max
@[reducible] def jgL (f : Fun) (m : Mch) (o : Oup) : List AV := f.cells ++ m.cells ++ o.cells ++ [.any]
@[reducible] def stR (W N k : Nat) : HO := .rows 91 1 N (fun c => [.sl ⟨W, [c]⟩ k])
@[reducible] def stW (N k : Nat) (K : Knw) : HO := famU (inD N) k (fun ix => K (ix.headD 0))
@[reducible] def stH (N k : Nat) (K : Knw) : List (Nat × HO) := [(1001, stR 1002 N k), (1002, stW N k K)]
theorem setF_K {N c : Nat} {K : Knw} {R : Nat → Bool} {ix : List Nat} (h : inD N ix) : setF (fun ix => K (ix.headD 0)) [c] R ix = setK K c R (ix.headD 0) := by
 obtain ⟨j, hj, rfl⟩ := h
 unfold setF setK
 show (if [j] = [c] then R else K j) = (if j = c then R else K j)
 by_cases e : j = c
 ·subst e; rw [if_pos rfl, if_pos rfl]
 ·rw [if_neg (fun h => e (by injection h)), if_neg e]
theorem stH_refs {N k : Nat} {K : Knw} : heapRefs (domP (stH N k K)) (stH N k K) := zi (fun i h => zi ⟨i, h, rfl⟩ zt) (zi (fun ix h => zt) zt)
theorem stH_kept {N k : Nat} {K L : Knw} : keptDom (stH N k L) (stH N k K) := zi zt (zi (fun ix h => h) zt)
theorem c_cell {fr : Nat} (hf : fr ≤ 1000) {p : Plc} (h : PlOk fr p) : ACallIs B.P 94 [p.av] (.i64 (celF p)) := by
 refine ACallIs.enter B _ _ Try.func94 rfl rfl Try.ntmps94 Try.results94 rfl fun hreal => ?_
 clear hreal
 repeat (first|apply zq|apply zb|apply zk)
 apply zr;intro _
 refine AWp.freezeObj 1 rfl rfl ?_
 repeat (first|apply zq|apply zb|apply zk)
 apply zr;intro _
 repeat (first|apply zq|apply zb|apply zk)
 refine AWp.cond (zi (fun h1 => ?_) (fun h1 => ?_))
 ·have hk : p.Kind = 2 := by simpa using h1
  repeat (first|apply zq|apply zb|apply zk)
  apply zr;intro _
  refine AWp.ret ⟨Or.inl rfl, rfl, ?_⟩
  intro _
  refine tupI ?_
  rw [celF_slot hk]
  rcases h with h | h
  ·omega
  ·show IntKind.i64.wrap (22 + p.N) = _
   rw [wrap_in (by omega) (by omega)]; omega
 ·have hk : p.Kind ≠ 2 := by simpa using h1
  repeat (first|apply zq|apply zb|apply zk)
  apply zr;intro _
  refine AWp.ret ⟨Or.inl rfl, rfl, ?_⟩
  intro _
  refine tupI ?_
  rcases h with h | h
  ·rw [celF_reg h.1]
   show IntKind.i64.wrap (IntKind.i64.wrap (p.Class * 11) + p.N) = _
   rw [wrap_in (n := p.Class * 11) (by omega) (by omega), wrap_in (by omega) (by omega)]; omega
  ·exact absurd h.1 hk
def clS (S : Nat → Bool) (j : Nat) : Nat → Bool := fun v => S v && !decide (v / 64 < j)
theorem cl_row {S : Nat → Bool} {j i : Nat} : bitC (clS S (j + 1)) i = if i = j then [AV.int .u64 0] else bitC (clS S j) i := by
 by_cases e : i = j
 ·subst e; rw [if_pos rfl]
  exact congrArg (fun z => [AV.int .u64 z]) (wrd_zero.2 fun t ht => by unfold clS; rw [decide_eq_true (by omega)]; simp)
 ·rw [if_neg e]
  exact congrArg (fun z => [AV.int .u64 z]) (wrd_congr fun t ht => by
   unfold clS
   by_cases g : i < j
   ·rw [decide_eq_true (by omega), decide_eq_true (by omega)]
   ·rw [decide_eq_false (by omega), decide_eq_false (by omega)])
theorem cl_all {S : Nat → Bool} {k i : Nat} (hi : i < k) : bitC nonS i = bitC (clS S k) i :=
 congrArg (fun z => [AV.int .u64 z]) (wrd_congr fun t ht => by unfold clS nonS; rw [decide_eq_true (by omega)]; simp)
theorem cl_none {S : Nat → Bool} {i : Nat} : bitC (clS S 0) i = bitC S i :=
 congrArg (fun z => [AV.int .u64 z]) (wrd_congr fun t ht => by unfold clS; simp)
set_option maxHeartbeats 1000000 in
theorem m_clear {ix : List Nat} {D : List Nat → Prop} (hD : D ix) {k : Nat} (S : List Nat → Nat → Bool) (hk : k ≤ 1000000) :
  ACallM B.P 95 ⟨[.sl ⟨1001, ix⟩ k], [(1001, famU D k S)], .tup [], [(1001, famU D k (setF S ix nonS))]⟩ := by
 have hkl : k ≤ maxLen := by unfold maxLen; omega
 refine ACallM.enter B _ _ Try.func95 rfl rfl Try.ntmps95 Try.results95 rfl ?_ fun hreal => ?_
 ·refine zi (zi (fun jx h => zt) zt) (zi (zi hD zt) (zi (fun jx h => h) zt))
 clear hreal
 repeat (first|apply zq|apply zb|apply zk)
 apply zr;intro _
 repeat (first|apply zq|apply zb|apply zk)
 refine AWp.loop (fun j : Nat => ⟨[(0, .sl ⟨1001, ix⟩ k), (4, .i64 k), (5, .i64 j)], [(1001, famU D k (setF S ix (clS (S ix) j)))]⟩) (fun j => j ≤ k) (fun j => k - j) 0 (Nat.zero_le _) ?_ ?_
 ·refine zi ?_ (zi ⟨_, _, rfl, fun z hz => ⟨hz, _, _, rfl, rfl, fun i hi => ?_⟩⟩ (zi (fun z h => zt) zt))
  ·refine zi rfl (zi hD ?_)
   repeat' (first|exact rfl|exact zt|apply zi)
  ·by_cases e : z = ix
   ·subst e
    show bitC (setF S z _ z) i = bitC (S z) i
    rw [setF_same, cl_none]
   ·exact congrArg (fun q => bitC q i) (setF_ne e)
 intro j hj
 repeat (first|apply zq|apply zb|apply zk)
 apply zr;intro _
 repeat (first|apply zq|apply zb|apply zk)
 refine AWp.cond (zi (fun h1 => ?_) (fun h1 => ?_))
 ·have hj' : j < k := Int.ofNat_lt.1 (of_decide_eq_true h1)
  repeat (first|apply zq|apply zb|apply zk)
  apply zr;intro _
  repeat (first|apply zq|apply zb|apply zk)
  apply zr
  repeat' refine zi ?_ ?_
  all_goals first|exact fun _ => hD|exact fun _ => (nn (hj'))|exact hj'|skip
  intro _
  repeat (first|apply zq|apply zb|apply zk)
  apply zr;intro _
  refine round_end (j + 1) hj' ?_ (by omega)
  refine zi ?_ (zi ⟨_, _, rfl, fun z hz => ⟨hz, sub1_sel (fun e i hi => ?_) (fun e i hi => ?_)⟩⟩ (zi (fun z h => zt) zt))
  ·refine zi rfl (zi hD ?_)
   repeat' (first|exact rfl|exact zt|exact congrArg (fun z => some (AV.i64 z)) (wrap_succ hj' hkl)|refine zi ?_ ?_)
  ·subst e
   show bitC (setF S z _ z) i = if i = ((j : Int)).toNat then [AV.int .u64 0] else bitC (setF S z (clS (S z) j) z) i
   rw [setF_same, setF_same, Int.toNat_natCast]
   exact cl_row
  ·show bitC (setF S ix _ z) i = bitC (setF S ix _ z) i
   rw [setF_ne e, setF_ne e]
 ·have hj3 : ¬ (j : Int) < k := of_decide_eq_false h1
  obtain rfl : j = k := by omega
  apply ze
  refine ⟨Or.inr rfl, ?_⟩
  intro _
  refine zi rfl (zi zt (zi ⟨_, _, rfl, fun z hz => ⟨hz, _, _, rfl, rfl, fun i hi => ?_⟩⟩ (zi (fun z h => zt) zt)))
  show bitC (setF S ix _ z) i = bitC (setF S ix _ z) i
  by_cases e : z = ix
  ·subst e
   rw [setF_same, setF_same]
   exact cl_all hi
  ·rw [setF_ne e, setF_ne e]
set_option maxHeartbeats 4000000 in
theorem m_jmoves (f : Fun) (m : Mch) (o : Oup) (hok : Oup.ok o) {fr k : Nat} (hfr : fr ≤ 1000) (hkk : k ≤ 1000000) (K : Knw) (b a : Nat) (hM : ∀ i k, i < o.Edits.length → k < (o.Edits.getD i default).Moves.length → PlOk fr ((o.Edits.getD i default).Moves.getD k default).From ∧ PlOk fr ((o.Edits.getD i default).Moves.getD k default).To) :
  ACallM B.P 52 ⟨[.ptr (jgL f m o), .sl 1001 (22 + fr), .i64 b, .i64 a], stH (22 + fr) k K, .tup [], stH (22 + fr) k (edKA o b a K)⟩ := by
 have hlen := edits_len hok
 refine ACallM.enter B _ _ Try.func52 rfl rfl Try.ntmps52 Try.results52 rfl ?_ fun hreal => ?_
 ·refine zi stH_refs (zi ?_ stH_kept)
  repeat' (first|exact rfl|exact zt|apply zi)
 clear hreal
 repeat (first|apply zq|apply zb|apply zk)
 apply zr;intro _
 repeat (first|apply zq|apply zb|apply zk)
 refine AWp.loop (fun i : Nat => ⟨[(1, .sl 1001 (22 + fr)), (2, .i64 b), (3, .i64 a), (16, roL 3 Edt.cells o.Edits), (17, .i64 o.Edits.length), (18, .i64 i)], stH (22 + fr) k (edK o.Edits b a K i)⟩) (fun i => i ≤ o.Edits.length) (fun i => o.Edits.length - i) 0 (Nat.zero_le _) ?_ ?_
 ·refine zi ?_ (zi ⟨_, _, rfl, rfl, fun i h => rfl⟩ (zi (fun i h => zi ⟨i, h, rfl⟩ zt) (zi ⟨_, _, rfl, fun z h => ⟨h, _, _, rfl, rfl, fun i h => rfl⟩⟩ (zi (fun z h => zt) zt))))
  all_goals repeat' (first|exact rfl|exact zt|apply zi)
 intro i hi
 repeat (first|apply zq|apply zb|apply zk)
 apply zr;intro _
 repeat (first|apply zq|apply zb|apply zk)
 refine AWp.cond (zi (fun h1 => ?_) (fun h1 => ?_))
 ·have hi' : i < o.Edits.length := Int.ofNat_lt.1 (of_decide_eq_true h1)
  have hml := moves_len hok hi'
  have hmx : (o.Edits.getD i default).Moves.length ≤ maxLen := by unfold maxLen; omega
  repeat (first|apply zq|apply zb|apply zk)
  apply zr
  refine zi (fun _ => nn (hi')) ?_
  intro _
  refine AWp.freezeObj 9 rfl rfl ?_
  repeat (first|apply zq|apply zb|apply zk)
  apply zr
  repeat' refine zi ?_ ?_
  all_goals first|exact fun h => h|exact gT|exact gF|exact gN|exact gA|skip
  intro _
  repeat (first|apply zq|apply zb|apply zk)
  refine AWp.cond (zi (fun h2 => ?_) (fun h2 => ?_))
  ·have e : edK o.Edits b a K (i + 1) = edK o.Edits b a K i := edK_no (by clear hml hmx; simp only [bif_if, Int.toNat_natCast] at h2; grind)
   apply ze
   repeat (first|apply zq|apply zb|apply zk)
   apply zr;intro _
   refine round_end (i + 1) hi' ?_ (by omega)
   rw [e]
   refine zi ?_ (zi ⟨_, _, rfl, rfl, fun i h => rfl⟩ (zi (fun i h => zi ⟨i, h, rfl⟩ zt) (zi ⟨_, _, rfl, fun z h => ⟨h, _, _, rfl, rfl, fun i h => rfl⟩⟩ (zi (fun z h => zt) zt))))
   all_goals repeat' (first|exact rfl|exact zt|exact congrArg (fun z => some (AV.i64 z)) (wrap_succ hi' hlen)|refine zi ?_ ?_)
  have e : edK o.Edits b a K (i + 1) = mvK (o.Edits.getD i default) (edK o.Edits b a K i) (o.Edits.getD i default).Moves.length := edK_yes (by clear hml hmx; simp only [bif_if, Int.toNat_natCast] at h2; grind)
  repeat (first|apply zq|apply zb|apply zk)
  apply zr;intro _
  repeat (first|apply zq|apply zb|apply zk)
  refine AWp.loop (fun q : Nat => ⟨[(1, .sl 1001 (22 + fr)), (2, .i64 b), (3, .i64 a), (16, roL 3 Edt.cells o.Edits), (17, .i64 o.Edits.length), (18, .i64 i), (33, roL 6 Mov.cells (o.Edits.getD i default).Moves), (34, .i64 (o.Edits.getD i default).Moves.length), (35, .i64 q)], stH (22 + fr) k (mvK (o.Edits.getD i default) (edK o.Edits b a K i) q)⟩) (fun q => q ≤ (o.Edits.getD i default).Moves.length) (fun q => (o.Edits.getD i default).Moves.length - q) 0 (Nat.zero_le _) ?_ ?_
  ·refine zi ?_ (zi ⟨_, _, rfl, rfl, fun i h => rfl⟩ (zi (fun i h => zi ⟨i, h, rfl⟩ zt) (zi ⟨_, _, rfl, fun z h => ⟨h, _, _, rfl, rfl, fun i h => rfl⟩⟩ (zi (fun z h => zt) zt))))
   all_goals repeat' (first|exact rfl|exact zt|apply zi)
  intro q hq
  repeat (first|apply zq|apply zb|apply zk)
  apply zr;intro _
  repeat (first|apply zq|apply zb|apply zk)
  refine AWp.cond (zi (fun h3 => ?_) (fun h3 => ?_))
  ·have hq' : q < (o.Edits.getD i default).Moves.length := Int.ofNat_lt.1 (of_decide_eq_true h3)
   obtain ⟨hF, hT⟩ := hM i q hi' hq'
   have hFl := hF.lt
   have hTl := hT.lt
   repeat (first|apply zq|apply zb|apply zk)
   apply zr
   refine zi (fun _ => nn (hq')) ?_
   intro _
   refine AWp.freezeObj 11 rfl rfl ?_
   repeat (first|apply zq|apply zb|apply zk)
   refine AWp.mono (Q := fun x s => x = .normal ∧ Sub ⟨[(1, .sl 1001 (22 + fr)), (2, .i64 b), (3, .i64 a), (16, roL 3 Edt.cells o.Edits), (17, .i64 o.Edits.length), (18, .i64 i), (33, roL 6 Mov.cells (o.Edits.getD i default).Moves), (34, .i64 (o.Edits.getD i default).Moves.length), (35, .i64 q)], stH (22 + fr) k (mvK (o.Edits.getD i default) (edK o.Edits b a K i) (q + 1))⟩ s) ?_ ?_
   ·refine AWp.quietP (.q 0 (.q 1 (.q 2 (.q 6 (.q 7 (.q 8 (.c 3 false (.q 4 (.c 5 false (.c 9 false (.q 10 (.c 11 false (.c 12 true .fin .no) .no)) .no) (.c 9 false (.q 10 (.c 5 false (.c 11 false (.c 12 true .fin .no) .no) (.c 11 false (.c 5 false (.c 12 true .fin .no) .no) .no))) .no))) .no))))))) [0, 1, 2, 4, 6, 7, 8, 10] [] mixed (by kernel_rfl) ?_
    repeat' (first|exact zt|refine zi ?_ ?_|refine CallX.pure (c_cell hfr hF) rfl rfl rfl ?_|refine CallX.pure (c_cell hfr hT) rfl rfl rfl ?_|refine CallK.intro (fun _ => c_cell hfr hF) ?_|refine CallK.intro (fun _ => c_cell hfr hT) ?_|fail)
    all_goals first|exact fun _ => nn (hTl)|exact fun _ => nn (hFl)|exact fun _ => hTl|exact fun _ => hFl|exact fun _ => ⟨_, hTl, rfl⟩|exact fun _ => ⟨_, hFl, rfl⟩|exact Nat.le_refl _|exact (fun i hi => rfl)|skip
    all_goals
     intro _
     refine zi rfl (zi ?_ (zi ⟨_, _, rfl, rfl, fun i h => rfl⟩ (zi (fun i h => zi ⟨i, h, rfl⟩ zt) (zi ⟨_, _, rfl, fun z hz => ⟨hz, sub1_sel (fun e i hi => ?_) (fun e i hi => ?_)⟩⟩ (zi (fun z h => zt) zt)))))
     ·repeat' (first|exact rfl|exact zt|apply zi)
     ·subst e
      refine Eq.trans ?_ (if_pos ⟨Nat.zero_le _, by omega⟩).symm
      exact congrArg (fun R => bitC R i) (if_pos rfl)
     ·obtain ⟨j, hj, rfl⟩ := hz
      exact congrArg (fun R => bitC R i) (if_neg fun h => e (congrArg (fun x => [x]) h))
   rintro _ _ ⟨rfl, hs⟩
   refine AWp.weaken hs ?_
   repeat (first|apply zq|apply zb|apply zk)
   apply zr;intro _
   refine round_end (q + 1) hq' ?_ (by omega)
   refine zi ?_ (zi ⟨_, _, rfl, rfl, fun i h => rfl⟩ (zi (fun i h => zi ⟨i, h, rfl⟩ zt) (zi ⟨_, _, rfl, fun z h => ⟨h, _, _, rfl, rfl, fun i h => rfl⟩⟩ (zi (fun z h => zt) zt))))
   all_goals repeat' (first|exact rfl|exact zt|exact congrArg (fun z => some (AV.i64 z)) (wrap_succ hq' hmx)|refine zi ?_ ?_)
  have hq3 : ¬ (q : Int) < (o.Edits.getD i default).Moves.length := of_decide_eq_false h3
  obtain rfl : q = (o.Edits.getD i default).Moves.length := by omega
  apply ze
  repeat (first|apply zq|apply zb|apply zk)
  apply zr;intro _
  refine round_end (i + 1) hi' ?_ (by omega)
  rw [e]
  refine zi ?_ (zi ⟨_, _, rfl, rfl, fun i h => rfl⟩ (zi (fun i h => zi ⟨i, h, rfl⟩ zt) (zi ⟨_, _, rfl, fun z h => ⟨h, _, _, rfl, rfl, fun i h => rfl⟩⟩ (zi (fun z h => zt) zt))))
  all_goals repeat' (first|exact rfl|exact zt|exact congrArg (fun z => some (AV.i64 z)) (wrap_succ hi' hlen)|refine zi ?_ ?_)
 have hi3 : ¬ (i : Int) < o.Edits.length := of_decide_eq_false h1
 obtain rfl : i = o.Edits.length := by omega
 apply ze
 refine ⟨Or.inr rfl, ?_⟩
 intro _
 exact zi rfl (zi zt (zi ⟨_, _, rfl, rfl, fun i h => rfl⟩ (zi (fun i h => zi ⟨i, h, rfl⟩ zt) (zi ⟨_, _, rfl, fun z h => ⟨h, _, _, rfl, rfl, fun i h => rfl⟩⟩ (zi (fun z h => zt) zt)))))
def b1F (x : Ins) (p : List Plc) (K : Knw) : Nat → Nat → Bool
 | 0 => fun _ => false
 | i + 1 => if (x.Operands.getD i default).Kind = 1 ∧ (x.Operands.getD i default).Late = false then (fun q => if q = i then !K (celF (p.getD i default)) (x.Operands.getD i default).Value.toNat else b1F x p K i q) else b1F x p K i
def b2F (x : Ins) (p : List Plc) (B : Nat → Bool) (K : Knw) : Nat → Nat → Bool
 | 0 => B
 | i + 1 => if (x.Operands.getD i default).Kind = 1 ∧ (x.Operands.getD i default).Late = true then (fun q => if q = i then !K (celF (p.getD i default)) (x.Operands.getD i default).Value.toNat else b2F x p B K i q) else b2F x p B K i
section
variable {x : Ins} {p : List Plc} {K K0 K2 : Knw} {B : Nat → Bool} {i q : Nat}
theorem b1F_yes (h : (x.Operands.getD i default).Kind = 1 ∧ (x.Operands.getD i default).Late = false) {v : Bool} (hv : v = !K (celF (p.getD i default)) (x.Operands.getD i default).Value.toNat) : [AV.bool (b1F x p K (i + 1) q)] = if q = i then [AV.bool v] else [AV.bool (b1F x p K i q)] := by
 subst hv
 have : b1F x p K (i + 1) = fun q => if q = i then !K (celF (p.getD i default)) (x.Operands.getD i default).Value.toNat else b1F x p K i q := if_pos h
 rw [this]; split <;> simp [*]
theorem b1F_no (h : ¬ ((x.Operands.getD i default).Kind = 1 ∧ (x.Operands.getD i default).Late = false)) : b1F x p K (i + 1) = b1F x p K i := if_neg h
theorem b2F_yes (h : (x.Operands.getD i default).Kind = 1 ∧ (x.Operands.getD i default).Late = true) {v : Bool} (hv : v = !K (celF (p.getD i default)) (x.Operands.getD i default).Value.toNat) : [AV.bool (b2F x p B K (i + 1) q)] = if q = i then [AV.bool v] else [AV.bool (b2F x p B K i q)] := by
 subst hv
 have : b2F x p B K (i + 1) = fun q => if q = i then !K (celF (p.getD i default)) (x.Operands.getD i default).Value.toNat else b2F x p B K i q := if_pos h
 rw [this]; split <;> simp [*]
theorem b2F_no (h : ¬ ((x.Operands.getD i default).Kind = 1 ∧ (x.Operands.getD i default).Late = true)) : b2F x p B K (i + 1) = b2F x p B K i := if_neg h
theorem b1F_at : ∀ n, b1F x p K n q = (decide (q < n) && ((x.Operands.getD q default).Kind == 1 && !(x.Operands.getD q default).Late && !K (celF (p.getD q default)) (x.Operands.getD q default).Value.toNat))
 | 0 => by simp [b1F]
 | n + 1 => by
  have ih := b1F_at n
  by_cases h : (x.Operands.getD n default).Kind = 1 ∧ (x.Operands.getD n default).Late = false
  ·have : b1F x p K (n + 1) = fun q => if q = n then !K (celF (p.getD n default)) (x.Operands.getD n default).Value.toNat else b1F x p K n q := if_pos h
   rw [this]
   obtain ⟨h1, h2⟩ := h
   by_cases e : q = n
   ·subst e
    show (if q = q then _ else _) = _
    rw [if_pos rfl, h1, h2]
    simp only [Nat.lt_succ_self, decide_true, beq_self_eq_true, Bool.not_false, Bool.true_and, cond_true]
   ·simp only [if_neg e, ih]
    by_cases g : q < n
    ·simp [g, Nat.lt_succ_of_lt g]
    ·simp [g, show ¬ q < n + 1 by omega]
  ·rw [b1F_no h, ih]
   by_cases e : q = n
   ·subst e
    simp only [Nat.lt_irrefl, decide_false, Bool.false_and, Nat.lt_succ_self, decide_true, Bool.true_and]
    cases hl : (x.Operands.getD q default).Late with
    | true => simp
    | false =>
     have : ((x.Operands.getD q default).Kind == 1) = false := beq_eq_false_iff_ne.2 fun hk => h ⟨hk, hl⟩
     rw [this]; simp only [Bool.false_and, cond_false]
   ·by_cases g : q < n
    ·simp [g, Nat.lt_succ_of_lt g]
    ·simp [g, show ¬ q < n + 1 by omega]
theorem b2F_at : ∀ n, b2F x p B K n q = (bif decide (q < n) && ((x.Operands.getD q default).Kind == 1 && (x.Operands.getD q default).Late) then !K (celF (p.getD q default)) (x.Operands.getD q default).Value.toNat else B q)
 | 0 => by simp [b2F]
 | n + 1 => by
  have ih := b2F_at n
  by_cases h : (x.Operands.getD n default).Kind = 1 ∧ (x.Operands.getD n default).Late = true
  ·have : b2F x p B K (n + 1) = fun q => if q = n then !K (celF (p.getD n default)) (x.Operands.getD n default).Value.toNat else b2F x p B K n q := if_pos h
   rw [this]
   obtain ⟨h1, h2⟩ := h
   by_cases e : q = n
   ·subst e
    show (if q = q then _ else _) = _
    rw [if_pos rfl, h1, h2]
    simp only [Nat.lt_succ_self, decide_true, beq_self_eq_true, Bool.not_false, Bool.true_and, cond_true]
   ·simp only [if_neg e, ih]
    by_cases g : q < n
    ·simp [g, Nat.lt_succ_of_lt g]
    ·simp [g, show ¬ q < n + 1 by omega]
  ·rw [b2F_no h, ih]
   by_cases e : q = n
   ·subst e
    simp only [Nat.lt_irrefl, decide_false, Bool.false_and, Nat.lt_succ_self, decide_true, Bool.true_and]
    cases hl : (x.Operands.getD q default).Late with
    | false => simp
    | true =>
     have : ((x.Operands.getD q default).Kind == 1) = false := beq_eq_false_iff_ne.2 fun hk => h ⟨hk, hl⟩
     rw [this]; simp only [Bool.false_and, cond_false]
   ·by_cases g : q < n
    ·simp [g, Nat.lt_succ_of_lt g]
    ·simp [g, show ¬ q < n + 1 by omega]
theorem bad_ok {n : Nat} (hq : q < n) (hk : (x.Operands.getD q default).Kind = 1 ∨ (x.Operands.getD q default).Kind = 2) : b2F x p (b1F x p K0 n) K2 n q = !okK x p K0 K2 q := by
 rw [b2F_at, b1F_at]
 unfold okK
 simp only [hq, decide_true, Bool.true_and]
 rcases hk with h | h
 ·rw [h]; cases (x.Operands.getD q default).Late <;> simp
 ·rw [h]; simp
def drK (K : Knw) (v : Nat) (i : Nat) : Knw := fun c => if c < i then dropS (K c) v else K c
theorem drK_zero {v : Nat} : drK K v 0 = K := by funext c; exact if_neg (by omega)
theorem drK_succ {v c : Nat} : drK K v (i + 1) c = setK (drK K v i) i (dropS (drK K v i i) v) c := by
 unfold drK setK
 by_cases e : c = i
 ·subst e; rw [if_pos rfl, if_pos (by omega), if_neg (by omega)]
 ·rw [if_neg e]
  by_cases g : c < i
  ·rw [if_pos (show c < i + 1 by omega)]; exact (if_pos g).symm
  ·rw [if_neg (show ¬ c < i + 1 by omega)]; exact (if_neg g).symm
theorem drK_all {v c n : Nat} (h : c < n) : drK K v n c = dropS (K c) v := if_pos h
end
theorem kind_ok {f : Fun} {m : Mch} (h : chkF f m = 0) {b a : Nat} (hb : b < f.Blocks.length) (ha : a < (f.Blocks.getD b default).Instrs.length) : ∀ q, q < (insAt f b a).Operands.length → ((insAt f b a).Operands.getD q default).Kind = 1 ∨ ((insAt f b a).Operands.getD q default).Kind = 2 := fun q hq => by
 obtain ⟨h1, h2, h3, h4, h5⟩ := chkF_zero h
 have hi := (blkF_zero (firstF_zero h4 b hb)).1
 have hi2 : insF f m (insAt f b a) = 0 := firstF_zero hi a ha
 have g1 : ¬ ((insAt f b a).Op < 0 ∨ 255 < (insAt f b a).Op) := fun hn => by rw [insF_op hn] at hi2; cases hi2
 have g2 : firstF (opdG f m (insAt f b a)) (insAt f b a).Operands.length = 0 := Classical.byContradiction fun hn => by rw [insF_a g1 rfl hn] at hi2; exact hn hi2
 have g3 : opdF f m ((insAt f b a).Operands.getD q default) = 0 := firstF_zero g2 q hq
 refine Classical.byContradiction fun hn => ?_
 unfold opdF at g3
 rw [if_pos (.inl ⟨fun h => hn (.inl h), fun h => hn (.inr h)⟩)] at g3
 cases g3
theorem rg_pl {fr : Nat} {r : Rg} (h : (0 ≤ r.Class ∧ r.Class < 2) ∧ (0 ≤ r.N ∧ r.N < 11)) : PlOk fr ⟨1, r.Class, r.N⟩ := .inl ⟨rfl, h.1.1, h.1.2, h.2.1, by have := h.2.2; show r.N ≤ 10; omega⟩
theorem celF_rg {r : Rg} : celF ⟨1, r.Class, r.N⟩ = celR r := celF_reg rfl
theorem clr_mem {N c v : Nat} {K : Knw} {ix : List Nat} (h : inD N ix) : setF (fun ix => drK K v N (ix.headD 0)) [c] nonS ix = setK (fun j => dropS (K j) v) c nonS (ix.headD 0) := by
 rw [setF_K h]
 obtain ⟨j, hj, rfl⟩ := h
 unfold setK
 show (if j = c then nonS else drK K v N j) = if j = c then nonS else dropS (K j) v
 rw [drK_all hj]
theorem mk_mem {c v j : Nat} {K : Knw} : setK (setK (fun j => dropS (K j) v) c nonS) c (putS (setK (fun j => dropS (K j) v) c nonS c) v) j = mkK1 K v c j := by
 unfold mkK1 setK
 by_cases e : j = c
 ·rw [if_pos e, if_pos e, if_pos rfl]
 ·rw [if_neg e, if_neg e, if_neg e]
theorem idxF_congr {p q : Nat → Bool} {n : Nat} (h : ∀ j, j < n → p j = q j) : idxF p n = idxF q n := by
 unfold idxF
 exact congrArg (fun z => z - 1) (firstF_congr fun j hj => by rw [h j hj])
set_option maxHeartbeats 16000000 in
theorem m_jinstr (f : Fun) (hC : Chkd f) (m : Mch) (o : Oup) (hok : Oup.ok o) {fr k : Nat} (hfr : fr ≤ 1000) (hk : k = nW f.Values.length) (K : Knw) (b a : Nat) (hb : b < f.Blocks.length) (ha : a < (f.Blocks.getD b default).Instrs.length) (hb2 : b < o.Places.length) (ha2 : a < (o.Places.getD b default).length) (hpl : (plAt o b a).length = (insAt f b a).Operands.length) (hp : ∀ i, i < (insAt f b a).Operands.length → PlOk fr ((plAt o b a).getD i default)) (hkd : ∀ q, q < (insAt f b a).Operands.length → ((insAt f b a).Operands.getD q default).Kind = 1 ∨ ((insAt f b a).Operands.getD q default).Kind = 2) (hs : ∀ i, i < (insAt f b a).Spoils.length → (0 ≤ ((insAt f b a).Spoils.getD i default).Class ∧ ((insAt f b a).Spoils.getD i default).Class < 2) ∧ (0 ≤ ((insAt f b a).Spoils.getD i default).N ∧ ((insAt f b a).Spoils.getD i default).N < 11)) :
  ACallM B.P 54 ⟨[.ptr (jgL f m o), .sl 1001 (22 + fr), .i64 b, .i64 a], stH (22 + fr) k K, .i64 (idxF (isB (fun q => !okA f o b a K q) true) (insAt f b a).Operands.length), stH (22 + fr) k (inKA f o b a K)⟩ := by
 have hz := hC.e.siz
 have hvl := hz.values
 have hkk : k ≤ 1000000 := by subst hk; show (f.Values.length + 63) / 64 ≤ _; omega
 have hop : (insAt f b a).Operands.length ≤ 6 := hz.ops b a hb ha
 have hop' : ((f.Blocks.getD b default).Instrs.getD a default).Operands.length ≤ 6 := hop
 have hspl : (insAt f b a).Spoils.length ≤ 20 := hz.spo b a hb ha
 have hom : (insAt f b a).Operands.length ≤ maxLen := by unfold maxLen; omega
 have hsm : (insAt f b a).Spoils.length ≤ maxLen := by unfold maxLen; omega
 have hNm : 22 + fr ≤ maxLen := by unfold maxLen; omega
 have hvv : ∀ q, q < (insAt f b a).Operands.length → ((((insAt f b a).Operands.getD q default).Value.toNat : Nat) : Int) = ((insAt f b a).Operands.getD q default).Value ∧ ((insAt f b a).Operands.getD q default).Value.toNat / 64 < k ∧ ((insAt f b a).Operands.getD q default).Value.toNat ≤ 1000000 := fun q hq => by
  have h := idx_ok (hC.opv b a q hb ha hq)
  have h1 : 0 ≤ ((insAt f b a).Operands.getD q default).Value := h.1
  have h2 : ((insAt f b a).Operands.getD q default).Value < (f.Values.length : Int) := h.2
  subst hk
  refine ⟨by omega, ?_, by omega⟩
  show _ < (f.Values.length + 63) / 64
  omega
 refine ACallM.enter B _ _ Try.func54 rfl rfl Try.ntmps54 Try.results54 rfl ?_ fun hreal => ?_
 ·refine zi stH_refs (zi ?_ stH_kept)
  repeat' (first|exact rfl|exact zt|apply zi)
 clear hreal
 repeat (first|apply zq|apply zb|apply zk)
 apply zr;intro _
 repeat (first|apply zq|apply zb|apply zk)
 refine AWp.quietP (.q 0 (.q 1 (.q 2 (.q 3 (.q 4 (.q 5 (.q 6 (.q 7 (.q 8 (.q 9 (.q 10 (.q 11 (.q 12 (.q 13 (.q 14 (.q 15 (.q 16 (.q 17 (.q 18 (.q 19 (.q 20 (.q 21 (.q 22 (.c 23 false (.c 24 false (.q 25 .fin) .no) .no)))))))))))))))))))))))) [0, 1, 2, 3, 4, 5, 6, 7, 8, 9, 10, 11, 12, 13, 14, 15, 16, 17, 18, 19, 20, 21, 22, 25] [1001, 1002] mixed (by kernel_rfl) ?_
 repeat' (first|exact zt|refine zi ?_ ?_|fail)
 all_goals first|exact fun _ => nn (hb)|exact fun _ => nn (ha)|exact fun _ => nn (hb2)|exact fun _ => nn (ha2)|skip
 intro _
 refine AWp.freezeObj 9 rfl rfl ?_
 repeat (first|apply zq|apply zb|apply zk)
 apply zr
 refine zi rfl (zi (Int.natCast_nonneg _) (zi (by simp only [Int.toNat_natCast]; omega) ?_))
 intro _
 repeat (first|apply zq|apply zb|apply zk)
 apply zr;intro _
 repeat (first|apply zq|apply zb|apply zk)
 refine AWp.loop (fun i : Nat => ⟨[(1, .sl 1001 (22 + fr)), (9, .ptr (insAt f b a).cells), (10, roL 3 Plc.cells (plAt o b a)), (11, .sl 49 (insAt f b a).Operands.length), (51, roL 5 Opd.cells (insAt f b a).Operands), (52, .i64 (insAt f b a).Operands.length), (53, .i64 i)], stH (22 + fr) k (K) ++ [(49, rowB (insAt f b a).Operands.length (b1F (insAt f b a) (plAt o b a) K i))]⟩) (fun i => i ≤ (insAt f b a).Operands.length) (fun i => (insAt f b a).Operands.length - i) 0 (Nat.zero_le _) ?_ ?_
 ·refine zi ?_ (zi ⟨_, _, rfl, rfl, fun i h => rfl⟩ (zi (fun i h => zi ⟨i, h, rfl⟩ zt) (zi ⟨_, _, rfl, fun z h => ⟨h, _, _, rfl, rfl, fun i h => rfl⟩⟩ (zi (fun z h => zt) (zi (⟨_, _, rfl, rfl, fun q hq => rfl⟩) (zi zt zt))))))
  all_goals repeat' (first|exact rfl|exact zt|apply zi)
 intro i hi
 repeat (first|apply zq|apply zb|apply zk)
 apply zr;intro _
 repeat (first|apply zq|apply zb|apply zk)
 refine AWp.cond (zi (fun h1 => ?_) (fun h1 => ?_))
 ·have hi' : i < (insAt f b a).Operands.length := Int.ofNat_lt.1 (of_decide_eq_true h1)
  repeat (first|apply zq|apply zb|apply zk)
  apply zr
  refine zi (fun _ => nn (hi')) ?_
  intro _
  refine AWp.freezeObj 13 rfl rfl ?_
  repeat (first|apply zq|apply zb|apply zk)
  apply zr
  repeat' refine zi ?_ ?_
  all_goals first|exact fun h => h|exact gT|exact gF|exact gN|exact gA|skip
  intro _
  have hP := hp i hi'
  repeat (first|apply zq|apply zb|apply zk)
  refine AWp.mono (Q := fun x t => x = .normal ∧ Sub ⟨[(1, .sl 1001 (22 + fr)), (9, .ptr (insAt f b a).cells), (10, roL 3 Plc.cells (plAt o b a)), (11, .sl 49 (insAt f b a).Operands.length), (51, roL 5 Opd.cells (insAt f b a).Operands), (52, .i64 (insAt f b a).Operands.length), (53, .i64 i)], stH (22 + fr) k (K) ++ [(49, rowB (insAt f b a).Operands.length (b1F (insAt f b a) (plAt o b a) K (i + 1)))]⟩ t) ?_ ?_
  ·repeat (first|apply zq|apply zb|apply zk)
   refine AWp.cond (zi (fun h2 => ?_) (fun h2 => ?_))
   ·have hd : ((insAt f b a).Operands.getD i default).Kind = 1 ∧ ((insAt f b a).Operands.getD i default).Late = false := by (try simp only [bif_if, Int.toNat_natCast] at h2); grind
    refine AWp.quietP (.q 0 (.q 1 (.q 2 (.q 3 (.q 4 (.q 5 (.q 6 (.q 10 (.q 11 (.c 7 false (.q 8 (.c 9 false (.c 12 false (.q 13 (.q 14 (.c 15 true .fin .no))) .no) .no)) .no)))))))))) [0, 1, 2, 3, 4, 5, 6, 8, 10, 11, 13, 14] [] mixed (by kernel_rfl) ?_
    repeat' (first|exact zt|refine zi ?_ ?_|refine CallX.pure (c_cell hfr hP) rfl rfl rfl ?_|refine CallX.lend (m_HasZ (D := inD (22 + fr)) (ix := [celF ((plAt o b a).getD i default)]) ⟨_, hP.lt, rfl⟩ (fun ix => (K) (ix.headD 0)) (hvv i hi').1 (hvv i hi').2.1 (hvv i hi').2.2) [(1001, 1002)] rfl (zi rfl zt) rfl ?_|fail)
    all_goals first|exact fun _ => nn ((by rw [hpl]; exact hi'))|exact fun _ => nn (hi')|exact fun _ => nn (hP.lt)|exact fun _ => (show (celF ((plAt o b a).getD i default)) < 22 + fr from hP.lt)|exact fun _ => hi'|exact hi'|skip
    intro _
    refine zi rfl ?_
    refine zi ?_ (zi ⟨_, _, rfl, rfl, fun i h => rfl⟩ (zi (fun i h => zi ⟨i, h, rfl⟩ zt) (zi ⟨_, _, rfl, fun z h => ⟨h, _, _, rfl, rfl, fun i h => rfl⟩⟩ (zi (fun z h => zt) (zi (⟨_, _, rfl, rfl, fun q hq => b1F_yes hd rfl⟩) (zi zt zt))))))
    all_goals repeat' (first|exact rfl|exact zt|apply zi)
   ·have hd : ¬ (((insAt f b a).Operands.getD i default).Kind = 1 ∧ ((insAt f b a).Operands.getD i default).Late = false) := by (try simp only [bif_if, Int.toNat_natCast] at h2); grind
    refine AWp.skip ?_
    refine zi rfl ?_
    refine zi ?_ (zi ⟨_, _, rfl, rfl, fun i h => rfl⟩ (zi (fun i h => zi ⟨i, h, rfl⟩ zt) (zi ⟨_, _, rfl, fun z h => ⟨h, _, _, rfl, rfl, fun i h => rfl⟩⟩ (zi (fun z h => zt) (zi (⟨_, _, rfl, rfl, fun q hq => congrArg (fun z => [AV.bool (z q)]) (b1F_no hd)⟩) (zi zt zt))))))
    all_goals repeat' (first|exact rfl|exact zt|apply zi)
  rintro _ _ ⟨rfl, hs1⟩
  refine AWp.weaken hs1 ?_
  repeat (first|apply zq|apply zb|apply zk)
  apply zr;intro _
  refine round_end (i + 1) hi' ?_ (by omega)
  refine zi ?_ (zi ⟨_, _, rfl, rfl, fun i h => rfl⟩ (zi (fun i h => zi ⟨i, h, rfl⟩ zt) (zi ⟨_, _, rfl, fun z h => ⟨h, _, _, rfl, rfl, fun i h => rfl⟩⟩ (zi (fun z h => zt) (zi (⟨_, _, rfl, rfl, fun q hq => rfl⟩) (zi zt zt))))))
  all_goals repeat' (first|exact rfl|exact zt|exact congrArg (fun z => some (AV.i64 z)) (wrap_succ hi' hom)|refine zi ?_ ?_)
 have hi3 : ¬ (i : Int) < (insAt f b a).Operands.length := of_decide_eq_false h1
 obtain rfl : i = (insAt f b a).Operands.length := by omega
 clear hi hi3 h1
 apply ze
 repeat (first|apply zq|apply zb|apply zk)
 apply zr;intro _
 repeat (first|apply zq|apply zb|apply zk)
 refine AWp.loop (fun i : Nat => ⟨[(1, .sl 1001 (22 + fr)), (9, .ptr (insAt f b a).cells), (10, roL 3 Plc.cells (plAt o b a)), (11, .sl 49 (insAt f b a).Operands.length), (83, roL 5 Opd.cells (insAt f b a).Operands), (84, .i64 (insAt f b a).Operands.length), (85, .i64 i)], stH (22 + fr) k (dwK (insAt f b a) (plAt o b a) K i) ++ [(49, rowB (insAt f b a).Operands.length (b1F (insAt f b a) (plAt o b a) K (insAt f b a).Operands.length))]⟩) (fun i => i ≤ (insAt f b a).Operands.length) (fun i => (insAt f b a).Operands.length - i) 0 (Nat.zero_le _) ?_ ?_
 ·refine zi ?_ (zi ⟨_, _, rfl, rfl, fun i h => rfl⟩ (zi (fun i h => zi ⟨i, h, rfl⟩ zt) (zi ⟨_, _, rfl, fun z h => ⟨h, _, _, rfl, rfl, fun i h => rfl⟩⟩ (zi (fun z h => zt) (zi (⟨_, _, rfl, rfl, fun q hq => rfl⟩) (zi zt zt))))))
  all_goals repeat' (first|exact rfl|exact zt|apply zi)
 intro i hi
 repeat (first|apply zq|apply zb|apply zk)
 apply zr;intro _
 repeat (first|apply zq|apply zb|apply zk)
 refine AWp.cond (zi (fun h1 => ?_) (fun h1 => ?_))
 ·have hi' : i < (insAt f b a).Operands.length := Int.ofNat_lt.1 (of_decide_eq_true h1)
  repeat (first|apply zq|apply zb|apply zk)
  apply zr
  refine zi (fun _ => nn (hi')) ?_
  intro _
  refine AWp.freezeObj 15 rfl rfl ?_
  repeat (first|apply zq|apply zb|apply zk)
  apply zr
  repeat' refine zi ?_ ?_
  all_goals first|exact fun h => h|exact gT|exact gF|exact gN|exact gA|skip
  intro _
  have hP := hp i hi'
  repeat (first|apply zq|apply zb|apply zk)
  refine AWp.mono (Q := fun x t => x = .normal ∧ Sub ⟨[(1, .sl 1001 (22 + fr)), (9, .ptr (insAt f b a).cells), (10, roL 3 Plc.cells (plAt o b a)), (11, .sl 49 (insAt f b a).Operands.length), (83, roL 5 Opd.cells (insAt f b a).Operands), (84, .i64 (insAt f b a).Operands.length), (85, .i64 i)], stH (22 + fr) k (dwK (insAt f b a) (plAt o b a) K (i + 1)) ++ [(49, rowB (insAt f b a).Operands.length (b1F (insAt f b a) (plAt o b a) K (insAt f b a).Operands.length))]⟩ t) ?_ ?_
  ·repeat (first|apply zq|apply zb|apply zk)
   refine AWp.cond (zi (fun h2 => ?_) (fun h2 => ?_))
   ·have hd : ((insAt f b a).Operands.getD i default).Kind = 2 ∧ ((insAt f b a).Operands.getD i default).Late = false := by (try simp only [bif_if, Int.toNat_natCast] at h2); grind
    rw [dwK_yes hd]
    repeat (first|apply zq|apply zb|apply zk)
    apply zr
    repeat' (first|exact zt|refine zi ?_ ?_|refine CallX.pure (c_cell hfr hP) rfl rfl rfl ?_|refine CallX.lend (m_clear (D := inD (22 + fr)) (ix := [celF ((plAt o b a).getD i default)]) ⟨_, hP.lt, rfl⟩ (fun ix => (dwK (insAt f b a) (plAt o b a) K i) (ix.headD 0)) hkk) [(1001, 1002)] rfl (zi rfl zt) rfl ?_|fail)
    all_goals first|exact fun _ => nn ((by rw [hpl]; exact hi'))|exact fun _ => nn (hi')|exact fun _ => nn (hP.lt)|exact fun _ => (show (celF ((plAt o b a).getD i default)) < 22 + fr from hP.lt)|exact fun _ => hi'|exact hi'|skip
    intro _
    refine zi rfl ?_
    refine zi ?_ (zi ⟨_, _, rfl, rfl, fun i h => rfl⟩ (zi (fun i h => zi ⟨i, h, rfl⟩ zt) (zi ⟨_, _, rfl, fun z hz => ⟨hz, _, _, rfl, rfl, fun i hi => congrArg (fun q => bitC q i) (setF_K hz).symm⟩⟩ (zi (fun z h => zt) (zi (⟨_, _, rfl, rfl, fun q hq => rfl⟩) (zi zt zt))))))
    all_goals repeat' (first|exact rfl|exact zt|apply zi)
   ·have hd : ¬ (((insAt f b a).Operands.getD i default).Kind = 2 ∧ ((insAt f b a).Operands.getD i default).Late = false) := by (try simp only [bif_if, Int.toNat_natCast] at h2); grind
    rw [dwK_no hd]
    refine AWp.skip ?_
    refine zi rfl ?_
    refine zi ?_ (zi ⟨_, _, rfl, rfl, fun i h => rfl⟩ (zi (fun i h => zi ⟨i, h, rfl⟩ zt) (zi ⟨_, _, rfl, fun z h => ⟨h, _, _, rfl, rfl, fun i h => rfl⟩⟩ (zi (fun z h => zt) (zi (⟨_, _, rfl, rfl, fun q hq => rfl⟩) (zi zt zt))))))
    all_goals repeat' (first|exact rfl|exact zt|apply zi)
  rintro _ _ ⟨rfl, hs1⟩
  refine AWp.weaken hs1 ?_
  repeat (first|apply zq|apply zb|apply zk)
  apply zr;intro _
  refine round_end (i + 1) hi' ?_ (by omega)
  refine zi ?_ (zi ⟨_, _, rfl, rfl, fun i h => rfl⟩ (zi (fun i h => zi ⟨i, h, rfl⟩ zt) (zi ⟨_, _, rfl, fun z h => ⟨h, _, _, rfl, rfl, fun i h => rfl⟩⟩ (zi (fun z h => zt) (zi (⟨_, _, rfl, rfl, fun q hq => rfl⟩) (zi zt zt))))))
  all_goals repeat' (first|exact rfl|exact zt|exact congrArg (fun z => some (AV.i64 z)) (wrap_succ hi' hom)|refine zi ?_ ?_)
 have hi3 : ¬ (i : Int) < (insAt f b a).Operands.length := of_decide_eq_false h1
 obtain rfl : i = (insAt f b a).Operands.length := by omega
 clear hi hi3 h1
 apply ze
 repeat (first|apply zq|apply zb|apply zk)
 apply zr;intro _
 repeat (first|apply zq|apply zb|apply zk)
 refine AWp.loop (fun i : Nat => ⟨[(1, .sl 1001 (22 + fr)), (9, .ptr (insAt f b a).cells), (10, roL 3 Plc.cells (plAt o b a)), (11, .sl 49 (insAt f b a).Operands.length), (109, roL 2 Rg.cells (insAt f b a).Spoils), (110, .i64 (insAt f b a).Spoils.length), (111, .i64 i)], stH (22 + fr) k (spK (insAt f b a).Spoils (dwK (insAt f b a) (plAt o b a) K (insAt f b a).Operands.length) i) ++ [(49, rowB (insAt f b a).Operands.length (b1F (insAt f b a) (plAt o b a) K (insAt f b a).Operands.length))]⟩) (fun i => i ≤ (insAt f b a).Spoils.length) (fun i => (insAt f b a).Spoils.length - i) 0 (Nat.zero_le _) ?_ ?_
 ·refine zi ?_ (zi ⟨_, _, rfl, rfl, fun i h => rfl⟩ (zi (fun i h => zi ⟨i, h, rfl⟩ zt) (zi ⟨_, _, rfl, fun z h => ⟨h, _, _, rfl, rfl, fun i h => rfl⟩⟩ (zi (fun z h => zt) (zi (⟨_, _, rfl, rfl, fun q hq => rfl⟩) (zi zt zt))))))
  all_goals repeat' (first|exact rfl|exact zt|apply zi)
 intro i hi
 repeat (first|apply zq|apply zb|apply zk)
 apply zr;intro _
 repeat (first|apply zq|apply zb|apply zk)
 refine AWp.cond (zi (fun h1 => ?_) (fun h1 => ?_))
 ·have hi' : i < (insAt f b a).Spoils.length := Int.ofNat_lt.1 (of_decide_eq_true h1)
  repeat (first|apply zq|apply zb|apply zk)
  apply zr
  refine zi (fun _ => nn (hi')) ?_
  intro _
  refine AWp.freezeObj 17 rfl rfl ?_
  have hP : PlOk fr ⟨1, ((insAt f b a).Spoils.getD i default).Class, ((insAt f b a).Spoils.getD i default).N⟩ := rg_pl (hs i hi')
  have hPl := hP.lt
  have hsp : ∀ z, inD (22 + fr) z → (spK (insAt f b a).Spoils (dwK (insAt f b a) (plAt o b a) K (insAt f b a).Operands.length) (i + 1)) (z.headD 0) = setF (fun ix => (spK (insAt f b a).Spoils (dwK (insAt f b a) (plAt o b a) K (insAt f b a).Operands.length) i) (ix.headD 0)) [celF ⟨1, ((insAt f b a).Spoils.getD i default).Class, ((insAt f b a).Spoils.getD i default).N⟩] nonS z := fun z hz => ((setF_K hz).trans (congrArg (fun c => setK (spK (insAt f b a).Spoils (dwK (insAt f b a) (plAt o b a) K (insAt f b a).Operands.length) i) c nonS (z.headD 0)) celF_rg)).symm
  repeat (first|apply zq|apply zb|apply zk)
  apply zr
  repeat' (first|exact zt|refine zi ?_ ?_|refine CallX.pure (c_cell hfr hP) rfl rfl rfl ?_|refine CallX.lend (m_clear (D := inD (22 + fr)) (ix := [celF ⟨1, ((insAt f b a).Spoils.getD i default).Class, ((insAt f b a).Spoils.getD i default).N⟩]) ⟨_, hP.lt, rfl⟩ (fun ix => (spK (insAt f b a).Spoils (dwK (insAt f b a) (plAt o b a) K (insAt f b a).Operands.length) i) (ix.headD 0)) hkk) [(1001, 1002)] rfl (zi rfl zt) rfl ?_|fail)
  all_goals first|exact fun _ => nn (hP.lt)|exact fun _ => hPl|skip
  intro _
  repeat (first|apply zq|apply zb|apply zk)
  apply zr;intro _
  refine round_end (i + 1) hi' ?_ (by omega)
  refine zi ?_ (zi ⟨_, _, rfl, rfl, fun i h => rfl⟩ (zi (fun i h => zi ⟨i, h, rfl⟩ zt) (zi ⟨_, _, rfl, fun z hz => ⟨hz, _, _, rfl, rfl, fun i hi => congrArg (fun q => bitC q i) (hsp z hz)⟩⟩ (zi (fun z h => zt) (zi (⟨_, _, rfl, rfl, fun q hq => rfl⟩) (zi zt zt))))))
  all_goals repeat' (first|exact rfl|exact zt|exact congrArg (fun z => some (AV.i64 z)) (wrap_succ hi' hsm)|refine zi ?_ ?_)
 have hi3 : ¬ (i : Int) < (insAt f b a).Spoils.length := of_decide_eq_false h1
 obtain rfl : i = (insAt f b a).Spoils.length := by omega
 clear hi hi3 h1
 apply ze
 repeat (first|apply zq|apply zb|apply zk)
 apply zr;intro _
 repeat (first|apply zq|apply zb|apply zk)
 refine AWp.loop (fun i : Nat => ⟨[(1, .sl 1001 (22 + fr)), (9, .ptr (insAt f b a).cells), (10, roL 3 Plc.cells (plAt o b a)), (11, .sl 49 (insAt f b a).Operands.length), (127, roL 5 Opd.cells (insAt f b a).Operands), (128, .i64 (insAt f b a).Operands.length), (129, .i64 i)], stH (22 + fr) k (spKA f o b a K) ++ [(49, rowB (insAt f b a).Operands.length (b2F (insAt f b a) (plAt o b a) (b1F (insAt f b a) (plAt o b a) K (insAt f b a).Operands.length) (spKA f o b a K) i))]⟩) (fun i => i ≤ (insAt f b a).Operands.length) (fun i => (insAt f b a).Operands.length - i) 0 (Nat.zero_le _) ?_ ?_
 ·refine zi ?_ (zi ⟨_, _, rfl, rfl, fun i h => rfl⟩ (zi (fun i h => zi ⟨i, h, rfl⟩ zt) (zi ⟨_, _, rfl, fun z h => ⟨h, _, _, rfl, rfl, fun i h => rfl⟩⟩ (zi (fun z h => zt) (zi (⟨_, _, rfl, rfl, fun q hq => rfl⟩) (zi zt zt))))))
  all_goals repeat' (first|exact rfl|exact zt|apply zi)
 intro i hi
 repeat (first|apply zq|apply zb|apply zk)
 apply zr;intro _
 repeat (first|apply zq|apply zb|apply zk)
 refine AWp.cond (zi (fun h1 => ?_) (fun h1 => ?_))
 ·have hi' : i < (insAt f b a).Operands.length := Int.ofNat_lt.1 (of_decide_eq_true h1)
  repeat (first|apply zq|apply zb|apply zk)
  apply zr
  refine zi (fun _ => nn (hi')) ?_
  intro _
  refine AWp.freezeObj 19 rfl rfl ?_
  repeat (first|apply zq|apply zb|apply zk)
  apply zr
  repeat' refine zi ?_ ?_
  all_goals first|exact fun h => h|exact gT|exact gF|exact gN|exact gA|skip
  intro _
  have hP := hp i hi'
  repeat (first|apply zq|apply zb|apply zk)
  refine AWp.mono (Q := fun x t => x = .normal ∧ Sub ⟨[(1, .sl 1001 (22 + fr)), (9, .ptr (insAt f b a).cells), (10, roL 3 Plc.cells (plAt o b a)), (11, .sl 49 (insAt f b a).Operands.length), (127, roL 5 Opd.cells (insAt f b a).Operands), (128, .i64 (insAt f b a).Operands.length), (129, .i64 i)], stH (22 + fr) k (spKA f o b a K) ++ [(49, rowB (insAt f b a).Operands.length (b2F (insAt f b a) (plAt o b a) (b1F (insAt f b a) (plAt o b a) K (insAt f b a).Operands.length) (spKA f o b a K) (i + 1)))]⟩ t) ?_ ?_
  ·repeat (first|apply zq|apply zb|apply zk)
   refine AWp.cond (zi (fun h2 => ?_) (fun h2 => ?_))
   ·have hd : ((insAt f b a).Operands.getD i default).Kind = 1 ∧ ((insAt f b a).Operands.getD i default).Late = true := by (try simp only [bif_if, Int.toNat_natCast] at h2); grind
    refine AWp.quietP (.q 0 (.q 1 (.q 2 (.q 3 (.q 4 (.q 5 (.q 6 (.q 10 (.q 11 (.c 7 false (.q 8 (.c 9 false (.c 12 false (.q 13 (.q 14 (.c 15 true .fin .no))) .no) .no)) .no)))))))))) [0, 1, 2, 3, 4, 5, 6, 8, 10, 11, 13, 14] [] mixed (by kernel_rfl) ?_
    repeat' (first|exact zt|refine zi ?_ ?_|refine CallX.pure (c_cell hfr hP) rfl rfl rfl ?_|refine CallX.lend (m_HasZ (D := inD (22 + fr)) (ix := [celF ((plAt o b a).getD i default)]) ⟨_, hP.lt, rfl⟩ (fun ix => (spKA f o b a K) (ix.headD 0)) (hvv i hi').1 (hvv i hi').2.1 (hvv i hi').2.2) [(1001, 1002)] rfl (zi rfl zt) rfl ?_|fail)
    all_goals first|exact fun _ => nn ((by rw [hpl]; exact hi'))|exact fun _ => nn (hi')|exact fun _ => nn (hP.lt)|exact fun _ => (show (celF ((plAt o b a).getD i default)) < 22 + fr from hP.lt)|exact fun _ => hi'|exact hi'|skip
    intro _
    refine zi rfl ?_
    refine zi ?_ (zi ⟨_, _, rfl, rfl, fun i h => rfl⟩ (zi (fun i h => zi ⟨i, h, rfl⟩ zt) (zi ⟨_, _, rfl, fun z h => ⟨h, _, _, rfl, rfl, fun i h => rfl⟩⟩ (zi (fun z h => zt) (zi (⟨_, _, rfl, rfl, fun q hq => b2F_yes hd rfl⟩) (zi zt zt))))))
    all_goals repeat' (first|exact rfl|exact zt|apply zi)
   ·have hd : ¬ (((insAt f b a).Operands.getD i default).Kind = 1 ∧ ((insAt f b a).Operands.getD i default).Late = true) := by (try simp only [bif_if, Int.toNat_natCast] at h2); grind
    refine AWp.skip ?_
    refine zi rfl ?_
    refine zi ?_ (zi ⟨_, _, rfl, rfl, fun i h => rfl⟩ (zi (fun i h => zi ⟨i, h, rfl⟩ zt) (zi ⟨_, _, rfl, fun z h => ⟨h, _, _, rfl, rfl, fun i h => rfl⟩⟩ (zi (fun z h => zt) (zi (⟨_, _, rfl, rfl, fun q hq => congrArg (fun z => [AV.bool (z q)]) (b2F_no hd)⟩) (zi zt zt))))))
    all_goals repeat' (first|exact rfl|exact zt|apply zi)
  rintro _ _ ⟨rfl, hs1⟩
  refine AWp.weaken hs1 ?_
  repeat (first|apply zq|apply zb|apply zk)
  apply zr;intro _
  refine round_end (i + 1) hi' ?_ (by omega)
  refine zi ?_ (zi ⟨_, _, rfl, rfl, fun i h => rfl⟩ (zi (fun i h => zi ⟨i, h, rfl⟩ zt) (zi ⟨_, _, rfl, fun z h => ⟨h, _, _, rfl, rfl, fun i h => rfl⟩⟩ (zi (fun z h => zt) (zi (⟨_, _, rfl, rfl, fun q hq => rfl⟩) (zi zt zt))))))
  all_goals repeat' (first|exact rfl|exact zt|exact congrArg (fun z => some (AV.i64 z)) (wrap_succ hi' hom)|refine zi ?_ ?_)
 have hi3 : ¬ (i : Int) < (insAt f b a).Operands.length := of_decide_eq_false h1
 obtain rfl : i = (insAt f b a).Operands.length := by omega
 clear hi hi3 h1
 apply ze
 repeat (first|apply zq|apply zb|apply zk)
 apply zr;intro _
 repeat (first|apply zq|apply zb|apply zk)
 refine AWp.loop (fun i : Nat => ⟨[(1, .sl 1001 (22 + fr)), (10, roL 3 Plc.cells (plAt o b a)), (11, .sl 49 (insAt f b a).Operands.length), (158, roL 5 Opd.cells (insAt f b a).Operands), (159, .i64 (insAt f b a).Operands.length), (160, .i64 i)], stH (22 + fr) k (dfK (insAt f b a) (plAt o b a) (spKA f o b a K) i) ++ [(49, rowB (insAt f b a).Operands.length (b2F (insAt f b a) (plAt o b a) (b1F (insAt f b a) (plAt o b a) K (insAt f b a).Operands.length) (spKA f o b a K) (insAt f b a).Operands.length))]⟩) (fun i => i ≤ (insAt f b a).Operands.length) (fun i => (insAt f b a).Operands.length - i) 0 (Nat.zero_le _) ?_ ?_
 ·refine zi ?_ (zi ⟨_, _, rfl, rfl, fun i h => rfl⟩ (zi (fun i h => zi ⟨i, h, rfl⟩ zt) (zi ⟨_, _, rfl, fun z h => ⟨h, _, _, rfl, rfl, fun i h => rfl⟩⟩ (zi (fun z h => zt) (zi (⟨_, _, rfl, rfl, fun q hq => rfl⟩) (zi zt zt))))))
  all_goals repeat' (first|exact rfl|exact zt|apply zi)
 intro i hi
 repeat (first|apply zq|apply zb|apply zk)
 apply zr;intro _
 repeat (first|apply zq|apply zb|apply zk)
 refine AWp.cond (zi (fun h1 => ?_) (fun h1 => ?_))
 ·have hi' : i < (insAt f b a).Operands.length := Int.ofNat_lt.1 (of_decide_eq_true h1)
  repeat (first|apply zq|apply zb|apply zk)
  apply zr
  refine zi (fun _ => nn (hi')) ?_
  intro _
  refine AWp.freezeObj 21 rfl rfl ?_
  have hP := hp i hi'
  repeat (first|apply zq|apply zb|apply zk)
  apply zr;intro _
  repeat (first|apply zq|apply zb|apply zk)
  refine AWp.mono (Q := fun x t => x = .normal ∧ Sub ⟨[(1, .sl 1001 (22 + fr)), (10, roL 3 Plc.cells (plAt o b a)), (11, .sl 49 (insAt f b a).Operands.length), (158, roL 5 Opd.cells (insAt f b a).Operands), (159, .i64 (insAt f b a).Operands.length), (160, .i64 i)], stH (22 + fr) k (dfK (insAt f b a) (plAt o b a) (spKA f o b a K) (i + 1)) ++ [(49, rowB (insAt f b a).Operands.length (b2F (insAt f b a) (plAt o b a) (b1F (insAt f b a) (plAt o b a) K (insAt f b a).Operands.length) (spKA f o b a K) (insAt f b a).Operands.length))]⟩ t) ?_ ?_
  ·repeat (first|apply zq|apply zb|apply zk)
   refine AWp.cond (zi (fun h2 => ?_) (fun h2 => ?_))
   ·have hd : ((insAt f b a).Operands.getD i default).Kind = 2 := by (try simp only [bif_if, Int.toNat_natCast] at h2); grind
    rw [dfK_yes hd]
    repeat (first|apply zq|apply zb|apply zk)
    apply zr;intro _
    repeat (first|apply zq|apply zb|apply zk)
    refine AWp.loop (fun c : Nat => ⟨[(1, .sl 1001 (22 + fr)), (10, roL 3 Plc.cells (plAt o b a)), (11, .sl 49 (insAt f b a).Operands.length), (20, .i64 i), (21, .ptr ((insAt f b a).Operands.getD i default).cells), (158, roL 5 Opd.cells (insAt f b a).Operands), (159, .i64 (insAt f b a).Operands.length), (160, .i64 i), (169, .i64 ((22 + fr : Nat) : Int)), (170, .i64 c)], stH (22 + fr) k (drK (dfK (insAt f b a) (plAt o b a) (spKA f o b a K) i) ((insAt f b a).Operands.getD i default).Value.toNat c) ++ [(49, rowB (insAt f b a).Operands.length (b2F (insAt f b a) (plAt o b a) (b1F (insAt f b a) (plAt o b a) K (insAt f b a).Operands.length) (spKA f o b a K) (insAt f b a).Operands.length))]⟩) (fun c => c ≤ 22 + fr) (fun c => 22 + fr - c) 0 (Nat.zero_le _) ?_ ?_
    ·refine zi ?_ (zi ⟨_, _, rfl, rfl, fun i h => rfl⟩ (zi (fun i h => zi ⟨i, h, rfl⟩ zt) (zi ⟨_, _, rfl, fun z hz => ⟨hz, _, _, rfl, rfl, fun i hi => congrArg (fun q => bitC (q (z.headD 0)) i) drK_zero⟩⟩ (zi (fun z h => zt) (zi (⟨_, _, rfl, rfl, fun q hq => rfl⟩) (zi zt zt))))))
     all_goals repeat' (first|exact rfl|exact zt|apply zi)
    intro c hc
    repeat (first|apply zq|apply zb|apply zk)
    apply zr;intro _
    repeat (first|apply zq|apply zb|apply zk)
    refine AWp.cond (zi (fun h3 => ?_) (fun h3 => ?_))
    ·have hc' : c < 22 + fr := Int.ofNat_lt.1 (of_decide_eq_true h3)
     repeat (first|apply zq|apply zb|apply zk)
     apply zr;intro _
     repeat (first|apply zq|apply zb|apply zk)
     refine AWp.quietP (.q 0 (.q 1 (.q 2 (.q 4 (.q 5 (.c 3 false (.c 6 true .fin .no) .no)))))) [0, 1, 2, 4, 5] [] mixed (by kernel_rfl) ?_
     repeat' (first|exact zt|refine zi ?_ ?_|refine CallX.lend (m_DropZ (D := inD (22 + fr)) (ix := [c]) ⟨_, hc', rfl⟩ (fun ix => drK (dfK (insAt f b a) (plAt o b a) (spKA f o b a K) i) ((insAt f b a).Operands.getD i default).Value.toNat c (ix.headD 0)) (hvv i hi').1 (hvv i hi').2.1 (hvv i hi').2.2) [(1001, 1002)] rfl (zi rfl zt) rfl ?_|fail)
     all_goals first|exact fun _ => nn (hc')|exact fun _ => hc'|skip
     intro _
     repeat (first|apply zq|apply zb|apply zk)
     apply zr;intro _
     refine round_end (c + 1) hc' ?_ (by omega)
     refine zi ?_ (zi ⟨_, _, rfl, rfl, fun i h => rfl⟩ (zi (fun i h => zi ⟨i, h, rfl⟩ zt) (zi ⟨_, _, rfl, fun z hz => ⟨hz, _, _, rfl, rfl, fun i hi => congrArg (fun q => bitC q i) (drK_succ.trans (setF_K hz).symm)⟩⟩ (zi (fun z h => zt) (zi (⟨_, _, rfl, rfl, fun q hq => rfl⟩) (zi zt zt))))))
     all_goals repeat' (first|exact rfl|exact zt|exact congrArg (fun z => some (AV.i64 z)) (wrap_succ hc' hNm)|refine zi ?_ ?_)
    ·have hc3 : ¬ (c : Int) < ((22 + fr : Nat) : Int) := of_decide_eq_false h3
     obtain rfl : c = 22 + fr := by omega
     apply ze
     repeat (first|apply zq|apply zb|apply zk)
     apply zr
     repeat' (first|exact zt|refine zi ?_ ?_|refine CallX.pure (c_cell hfr hP) rfl rfl rfl ?_|refine CallX.lend (m_clear (D := inD (22 + fr)) (ix := [celF ((plAt o b a).getD i default)]) ⟨_, hP.lt, rfl⟩ (fun ix => (drK (dfK (insAt f b a) (plAt o b a) (spKA f o b a K) i) ((insAt f b a).Operands.getD i default).Value.toNat (22 + fr)) (ix.headD 0)) hkk) [(1001, 1002)] rfl (zi rfl zt) rfl ?_|fail)
     all_goals first|exact fun _ => nn ((by rw [hpl]; exact hi'))|exact fun _ => nn (hi')|exact fun _ => nn (hP.lt)|exact fun _ => (show (celF ((plAt o b a).getD i default)) < 22 + fr from hP.lt)|exact fun _ => hi'|exact hi'|skip
     intro _
     refine AWp.weaken (s' := ⟨[(1, .sl 1001 (22 + fr)), (10, roL 3 Plc.cells (plAt o b a)), (11, .sl 49 (insAt f b a).Operands.length), (20, .i64 i), (21, .ptr ((insAt f b a).Operands.getD i default).cells), (158, roL 5 Opd.cells (insAt f b a).Operands), (159, .i64 (insAt f b a).Operands.length), (160, .i64 i)], stH (22 + fr) k (setK (fun j => dropS ((dfK (insAt f b a) (plAt o b a) (spKA f o b a K) i) j) ((insAt f b a).Operands.getD i default).Value.toNat) (celF ((plAt o b a).getD i default)) nonS) ++ [(49, rowB (insAt f b a).Operands.length (b2F (insAt f b a) (plAt o b a) (b1F (insAt f b a) (plAt o b a) K (insAt f b a).Operands.length) (spKA f o b a K) (insAt f b a).Operands.length))]⟩) ?_ ?_
     ·refine zi ?_ (zi ⟨_, _, rfl, rfl, fun i h => rfl⟩ (zi (fun i h => zi ⟨i, h, rfl⟩ zt) (zi ⟨_, _, rfl, fun z hz => ⟨hz, _, _, rfl, rfl, fun i hi => congrArg (fun q => bitC q i) (clr_mem hz).symm⟩⟩ (zi (fun z h => zt) (zi (⟨_, _, rfl, rfl, fun q hq => rfl⟩) (zi zt zt))))))
      all_goals repeat' (first|exact rfl|exact zt|apply zi)
     repeat (first|apply zq|apply zb|apply zk)
     refine AWp.quietP (.q 0 (.q 1 (.q 2 (.q 3 (.q 4 (.q 8 (.q 9 (.c 5 false (.q 6 (.c 7 false (.c 10 true .fin .no) .no)) .no)))))))) [0, 1, 2, 3, 4, 6, 8, 9] [] mixed (by kernel_rfl) ?_
     repeat' (first|exact zt|refine zi ?_ ?_|refine CallX.pure (c_cell hfr hP) rfl rfl rfl ?_|refine CallX.lend (m_PutZ (D := inD (22 + fr)) (ix := [celF ((plAt o b a).getD i default)]) ⟨_, hP.lt, rfl⟩ (fun ix => setK (fun j => dropS ((dfK (insAt f b a) (plAt o b a) (spKA f o b a K) i) j) ((insAt f b a).Operands.getD i default).Value.toNat) (celF ((plAt o b a).getD i default)) nonS (ix.headD 0)) (hvv i hi').1 (hvv i hi').2.1 (hvv i hi').2.2) [(1001, 1002)] rfl (zi rfl zt) rfl ?_|fail)
     all_goals first|exact fun _ => nn ((by rw [hpl]; exact hi'))|exact fun _ => nn (hi')|exact fun _ => nn (hP.lt)|exact fun _ => (show (celF ((plAt o b a).getD i default)) < 22 + fr from hP.lt)|exact fun _ => hi'|exact hi'|skip
     intro _
     refine zi rfl ?_
     refine zi ?_ (zi ⟨_, _, rfl, rfl, fun i h => rfl⟩ (zi (fun i h => zi ⟨i, h, rfl⟩ zt) (zi ⟨_, _, rfl, fun z hz => ⟨hz, _, _, rfl, rfl, fun i hi => congrArg (fun q => bitC q i) ((setF_K hz).trans mk_mem).symm⟩⟩ (zi (fun z h => zt) (zi (⟨_, _, rfl, rfl, fun q hq => rfl⟩) (zi zt zt))))))
     all_goals repeat' (first|exact rfl|exact zt|apply zi)
   ·have hd : ¬ ((insAt f b a).Operands.getD i default).Kind = 2 := by (try simp only [bif_if, Int.toNat_natCast] at h2); grind
    rw [dfK_no hd]
    refine AWp.skip ?_
    refine zi rfl ?_
    refine zi ?_ (zi ⟨_, _, rfl, rfl, fun i h => rfl⟩ (zi (fun i h => zi ⟨i, h, rfl⟩ zt) (zi ⟨_, _, rfl, fun z h => ⟨h, _, _, rfl, rfl, fun i h => rfl⟩⟩ (zi (fun z h => zt) (zi (⟨_, _, rfl, rfl, fun q hq => rfl⟩) (zi zt zt))))))
    all_goals repeat' (first|exact rfl|exact zt|apply zi)
  rintro _ _ ⟨rfl, hs1⟩
  refine AWp.weaken hs1 ?_
  repeat (first|apply zq|apply zb|apply zk)
  apply zr;intro _
  refine round_end (i + 1) hi' ?_ (by omega)
  refine zi ?_ (zi ⟨_, _, rfl, rfl, fun i h => rfl⟩ (zi (fun i h => zi ⟨i, h, rfl⟩ zt) (zi ⟨_, _, rfl, fun z h => ⟨h, _, _, rfl, rfl, fun i h => rfl⟩⟩ (zi (fun z h => zt) (zi (⟨_, _, rfl, rfl, fun q hq => rfl⟩) (zi zt zt))))))
  all_goals repeat' (first|exact rfl|exact zt|exact congrArg (fun z => some (AV.i64 z)) (wrap_succ hi' hom)|refine zi ?_ ?_)
 have hi3 : ¬ (i : Int) < (insAt f b a).Operands.length := of_decide_eq_false h1
 obtain rfl : i = (insAt f b a).Operands.length := by omega
 clear hi hi3 h1
 apply ze
 repeat (first|apply zq|apply zb|apply zk)
 apply zr
 repeat' (first|exact zt|refine zi ?_ ?_|refine CallX.pure (c_IndexBool (b2F (insAt f b a) (plAt o b a) (b1F (insAt f b a) (plAt o b a) K (insAt f b a).Operands.length) (spKA f o b a K) (insAt f b a).Operands.length) (insAt f b a).Operands.length true hom) rfl rfl rfl ?_|fail)
 intro _
 refine AWp.ret ⟨Or.inl rfl, ?_⟩
 intro _
 refine zi ?_ (zi zt (zi ⟨_, _, rfl, rfl, fun i h => rfl⟩ (zi (fun i h => zi ⟨i, h, rfl⟩ zt) (zi ⟨_, _, rfl, fun z h => ⟨h, _, _, rfl, rfl, fun i h => rfl⟩⟩ (zi (fun z h => zt) zt)))))
 exact congrArg (fun z => AV.i64 z) (idxF_congr fun q hq => by unfold isB; rw [bad_ok hq (hkd q hq)])
@[reducible] def stD (n : Nat) (vis : Nat → Bool) (ix : List Nat) : Prop := ∃ b, b < n ∧ vis b = true ∧ ix = [b]
@[reducible] def wdD (n : Nat) (vis : Nat → Bool) (N : Nat) (ix : List Nat) : Prop := ∃ b c, b < n ∧ vis b = true ∧ c < N ∧ ix = [b, c]
@[reducible] def atS (W n : Nat) (vis : Nat → Bool) (N k : Nat) : HO := .fam (stD n vis) (fun ix => .rows 91 1 N (fun c => [.sl ⟨W, [ix.headD 0, c]⟩ k]))
@[reducible] def atW (n : Nat) (vis : Nat → Bool) (N k : Nat) (P : Nat → Knw) : HO := famU (wdD n vis N) k (fun ix => P (ix.headD 0) (ix.getD 1 0))
theorem atS_in {n N c : Nat} {vis : Nat → Bool} {z : List Nat} (hz : stD n vis z) (hc : c < N) : wdD n vis N [z.headD 0, c] := by
 obtain ⟨b, h1, h2, rfl⟩ := hz; exact ⟨b, c, h1, h2, hc, rfl⟩
def cpR (W k i c : Nat) : List AV := if c < i then [.sl ⟨W, [c]⟩ k] else [nilV]
theorem cpR_lt {W k i c : Nat} (h : c < i) : cpR W k i c = [.sl ⟨W, [c]⟩ k] := if_pos h
theorem cpR_ge {W k i c : Nat} (h : ¬ c < i) : cpR W k i c = [nilV] := if_neg h
theorem cpR_refs {W k i c : Nat} {p : Nm → Prop} (h : ∀ c, c < i → p ⟨W, [c]⟩) : AV.refsPL p (cpR W k i c) := by
 by_cases e : c < i
 ·rw [cpR_lt e]; exact zi (h c e) zt
 ·rw [cpR_ge e]; exact zi zt zt
theorem cpR_len {W k i c : Nat} : (cpR W k i c).length = 1 := by unfold cpR; split <;> rfl
theorem cpR_keep {W k i c : Nat} {p : Nm → Bool} (h : ∀ c, p ⟨W, [c]⟩ = true) : (cpR W k i c).map (AV.keep p) = cpR W k i c := by
 by_cases e : c < i
 ·rw [cpR_lt e]; show [AV.keep p (.sl ⟨W, [c]⟩ k)] = _; unfold AV.keep; rw [show AV.refsB p (.sl ⟨W, [c]⟩ k) = true from h c]; rfl
 ·rw [cpR_ge e]; rfl
theorem one_put {X : AV} {l : List AV} (h : l.length = 1) : [X] = l.take 0 ++ [X] ++ l.drop (0 + [X].length) := by
 rw [List.drop_of_length_le (by rw [h]; exact Nat.le_refl _)]; rfl
theorem cpR_via {F T k i c : Nat} : (if c = i then [AV.sl ⟨T, []⟩ k] else cpR F k i c) = AV.rnL (putρ F i T) (cpR F k (i + 1) c) := by
 by_cases e : c = i
 ·subst e
  rw [if_pos rfl, cpR_lt (by omega)]
  simp only [AV.rnL, AV.rn, putρ_at]
 ·rw [if_neg e]
  by_cases g : c < i
  ·rw [cpR_lt g, cpR_lt (by omega)]
   simp only [AV.rnL, AV.rn, putρ_ne e]
  ·rw [cpR_ge g, cpR_ge (by omega)]
   rfl
set_option maxHeartbeats 4000000 in
theorem m_copied {N k : Nat} (hN : N ≤ 100000) (hkk : k ≤ 1000000) (K : Knw) :
  ACallM B.P 51 ⟨[.sl 1001 N], [(1001, stR 1002 N k), (1002, stW N k K)], .sl 7 N, [(7, stR 8 N k), (8, stW N k (K)), (1001, stR 1002 N k), (1002, stW N k K)]⟩ := by
 have hNm : N ≤ maxLen := by unfold maxLen; omega
 refine ACallM.enter B _ _ Try.func51 rfl rfl Try.ntmps51 Try.results51 rfl ?_ fun hreal => ?_
 ·refine zi (zi (fun i h => zi ⟨i, h, rfl⟩ zt) (zi (fun z h => zt) zt)) (zi (zi rfl zt) (zi zt (zi (fun ix h => h) zt)))
 clear hreal
 repeat (first|apply zq|apply zb|apply zk)
 apply zr;intro _
 repeat (first|apply zq|apply zb|apply zk)
 apply zr
 refine zi rfl (zi (Int.natCast_nonneg _) (zi (by simp only [Int.toNat_natCast]; omega) ?_))
 intro _
 repeat (first|apply zq|apply zb|apply zk)
 apply zr;intro _
 refine AWp.via (newρ 8) ⟨[(0, .sl 1001 N), (3, .sl 7 N), (9, .i64 N), (10, .i64 (0 : Nat))], [(7, .rows 91 1 N (cpR 8 k 0)), (8, famU (inD 0) k (fun ix => K (ix.headD 0))), (1001, stR 1002 N k), (1002, stW N k K)]⟩ ?_ ?_
 ·refine ⟨?_, ?_, newρ_inj 8 _, newρ_old (by decide) _⟩
  ·repeat' (first|exact rfl|exact zt|apply zi)
  ·exact zi (zi ⟨_, ⟨_, rfl, rfl, zt⟩, Or.inr ⟨_, rfl, fun c hc => by rw [cpR_ge (Nat.not_lt_zero c)]; rfl⟩⟩ (fun q hq => cpR_refs fun c hc => absurd hc (Nat.not_lt_zero c))) (zi (fun z hz => absurd hz (fun ⟨j, hj, _⟩ => Nat.not_lt_zero j hj)) (zi (zi ⟨_, ⟨_, rfl, rfl, zt⟩, Or.inl ⟨_, rfl, fun i hi => rfl⟩⟩ (fun i h => zi ⟨i, h, rfl⟩ zt)) (zi (fun z hz => zi ⟨_, ⟨_, rfl, rfl, hz⟩, Or.inl ⟨_, rfl, fun i hi => rfl⟩⟩ zt) zt)))
 repeat (first|apply zq|apply zb|apply zk)
 refine AWp.loop (fun i : Nat => ⟨[(0, .sl 1001 N), (3, .sl 7 N), (9, .i64 N), (10, .i64 i)], [(7, .rows 91 1 N (cpR 8 k i)), (8, famU (inD i) k (fun ix => K (ix.headD 0))), (1001, stR 1002 N k), (1002, stW N k K)]⟩) (fun i => i ≤ N) (fun i => N - i) 0 (Nat.zero_le _) ?_ ?_
 ·refine zi ?_ (zi ⟨_, _, rfl, rfl, fun i h => rfl⟩ (zi (fun q hq => cpR_refs fun c hc => ⟨c, hc, rfl⟩) (zi ⟨_, _, rfl, fun z h => ⟨h, _, _, rfl, rfl, fun i h => rfl⟩⟩ (zi (fun z h => zt) (zi ⟨_, _, rfl, rfl, fun i h => rfl⟩ (zi (fun i h => zi ⟨i, h, rfl⟩ zt) (zi ⟨_, _, rfl, fun z h => ⟨h, _, _, rfl, rfl, fun i h => rfl⟩⟩ (zi (fun z h => zt) zt))))))))
  repeat' (first|exact rfl|exact zt|apply zi)
 intro i hi
 repeat (first|apply zq|apply zb|apply zk)
 apply zr;intro _
 repeat (first|apply zq|apply zb|apply zk)
 refine AWp.cond (zi (fun h1 => ?_) (fun h1 => ?_))
 ·have hi' : i < N := Int.ofNat_lt.1 (of_decide_eq_true h1)
  repeat (first|apply zq|apply zb|apply zk)
  apply zr;intro _
  repeat (first|apply zq|apply zb|apply zk)
  apply zr
  repeat' (first|exact zt|refine zi ?_ ?_|refine CallX.lend (m_Clone (D := inD N) (ix := [i]) ⟨_, hi', rfl⟩ (fun ix => K (ix.headD 0)) hkk) [(1001, 1002), (7, 19)] rfl (zi rfl zt) rfl ?_|fail)
  all_goals first|exact fun _ => nn (hi')|exact fun _ => hi'|exact hi'|exact fun _ => ⟨_, hi', rfl⟩|skip
  intro _
  refine AWp.weaken (s' := ⟨[(0, .sl 1001 N), (3, .sl 7 N), (9, .i64 N), (10, .i64 i)], [(7, .rows 91 1 N (fun c => if c = i then [AV.sl ⟨19, []⟩ k] else cpR 8 k i c)), (19, famO k (K i)), (8, famU (inD i) k (fun ix => K (ix.headD 0))), (1001, stR 1002 N k), (1002, stW N k K)]⟩) ?_ ?_
  ·refine zi ?_ (zi (⟨_, _, rfl, rfl, ?_⟩) (zi (?_) (zi ⟨_, _, rfl, fun z h => ⟨h, _, _, rfl, rfl, fun i h => rfl⟩⟩ (zi (fun z h => zt) (zi ⟨_, _, rfl, fun z h => ⟨h, _, _, rfl, rfl, fun i h => rfl⟩⟩ (zi (fun z h => zt) (zi ⟨_, _, rfl, rfl, fun i h => rfl⟩ (zi (fun i h => zi ⟨i, h, rfl⟩ zt) (zi ⟨_, _, rfl, fun z h => ⟨h, _, _, rfl, rfl, fun i h => rfl⟩⟩ (zi (fun z h => zt) zt))))))))))
   ·repeat' (first|exact rfl|exact zt|apply zi)
   ·intro c hc
    by_cases e : c = i
    ·subst e
     refine Eq.trans (if_pos rfl) (Eq.trans (one_put ((List.length_map _).trans cpR_len)) (if_pos rfl).symm)
    ·exact (if_neg e).trans ((cpR_keep fun _ => rfl).symm.trans (if_neg e).symm)
   ·intro c hc
    by_cases e : c = i
    ·subst e; show AV.refsPL _ (if c = c then _ else _); rw [if_pos rfl]; exact zi rfl zt
    ·show AV.refsPL _ (if c = i then _ else _); rw [if_neg e]; exact cpR_refs fun c hc => ⟨c, hc, rfl⟩
  refine AWp.via (putρ 8 i 19) ⟨[(0, .sl 1001 N), (3, .sl 7 N), (9, .i64 N), (10, .i64 i)], [(7, .rows 91 1 N (cpR 8 k (i + 1))), (8, famU (inD (i + 1)) k (fun ix => K (ix.headD 0))), (1001, stR 1002 N k), (1002, stW N k K)]⟩ ?_ ?_
  ·refine ⟨?_, ?_, putρ_inj (fun h => h), putρ_old (by decide) _⟩
   ·repeat' (first|exact rfl|exact zt|apply zi)
   ·refine zi (zi ⟨_, ⟨_, rfl, rfl, zt⟩, Or.inl ⟨_, rfl, fun c hc => cpR_via⟩⟩ (fun q hq => cpR_refs fun c hc => ⟨c, hc, rfl⟩)) (zi (fun z hz => zi ?_ zt) (zi (zi ⟨_, ⟨_, rfl, rfl, zt⟩, Or.inl ⟨_, rfl, fun i hi => rfl⟩⟩ (fun i h => zi ⟨i, h, rfl⟩ zt)) (zi (fun z hz => zi ⟨_, ⟨_, rfl, rfl, hz⟩, Or.inl ⟨_, rfl, fun i hi => rfl⟩⟩ zt) zt)))
    obtain ⟨c, hc, rfl⟩ := hz
    unfold viaO
    by_cases e : c = i
    ·subst e
     rw [putρ_at]
     exact ⟨_, ⟨_, rfl, rfl, rfl⟩, Or.inl ⟨_, rfl, fun j hj => rfl⟩⟩
    ·rw [putρ_ne e]
     exact ⟨_, ⟨_, rfl, rfl, ⟨c, by omega, rfl⟩⟩, Or.inl ⟨_, rfl, fun j hj => rfl⟩⟩
  repeat (first|apply zq|apply zb|apply zk)
  apply zr;intro _
  refine round_end (i + 1) hi' ?_ (by omega)
  refine zi ?_ (zi ⟨_, _, rfl, rfl, fun i h => rfl⟩ (zi (fun q hq => cpR_refs fun c hc => ⟨c, hc, rfl⟩) (zi ⟨_, _, rfl, fun z h => ⟨h, _, _, rfl, rfl, fun i h => rfl⟩⟩ (zi (fun z h => zt) (zi ⟨_, _, rfl, rfl, fun i h => rfl⟩ (zi (fun i h => zi ⟨i, h, rfl⟩ zt) (zi ⟨_, _, rfl, fun z h => ⟨h, _, _, rfl, rfl, fun i h => rfl⟩⟩ (zi (fun z h => zt) zt))))))))
  repeat' (first|exact rfl|exact zt|exact congrArg (fun z => some (AV.i64 z)) (wrap_succ hi' hNm)|refine zi ?_ ?_)
 have hi3 : ¬ (i : Int) < N := of_decide_eq_false h1
 obtain rfl : i = N := by omega
 apply ze
 repeat (first|apply zq|apply zb|apply zk)
 apply zr;intro _
 refine AWp.ret ⟨Or.inl rfl, ?_⟩
 intro _
 exact zi rfl (zi rfl (zi (⟨_, _, rfl, rfl, fun i hi => (cpR_lt hi).symm⟩) (zi (fun i h => zi ⟨i, h, rfl⟩ zt) (zi ⟨_, _, rfl, fun z h => ⟨h, _, _, rfl, rfl, fun i h => rfl⟩⟩ (zi (fun z h => zt) (zi ⟨_, _, rfl, rfl, fun i h => rfl⟩ (zi (fun i h => zi ⟨i, h, rfl⟩ zt) (zi ⟨_, _, rfl, fun z h => ⟨h, _, _, rfl, rfl, fun i h => rfl⟩⟩ (zi (fun z h => zt) zt)))))))))
set_option maxHeartbeats 4000000 in
theorem m_copiedAt {N k : Nat} (hN : N ≤ 100000) (hkk : k ≤ 1000000) {n b : Nat} {vis : Nat → Bool} (hb : b < n) (hv : vis b = true) (P : Nat → Knw) :
  ACallM B.P 51 ⟨[.sl ⟨1003, [b]⟩ N], [(1003, atS 1004 n vis N k), (1004, atW n vis N k P)], .sl 7 N, [(7, stR 8 N k), (8, stW N k (P b)), (1003, atS 1004 n vis N k), (1004, atW n vis N k P)]⟩ := by
 have hNm : N ≤ maxLen := by unfold maxLen; omega
 refine ACallM.enter B _ _ Try.func51 rfl rfl Try.ntmps51 Try.results51 rfl ?_ fun hreal => ?_
 ·refine zi (zi (fun z hz c hc => zi (atS_in hz hc) zt) (zi (fun z h => zt) zt)) (zi (zi ⟨b, hb, hv, rfl⟩ zt) (zi (fun ix h => h) (zi (fun ix h => h) zt)))
 clear hreal
 repeat (first|apply zq|apply zb|apply zk)
 apply zr;intro _
 repeat (first|apply zq|apply zb|apply zk)
 apply zr
 refine zi rfl (zi (Int.natCast_nonneg _) (zi (by simp only [Int.toNat_natCast]; omega) ?_))
 intro _
 repeat (first|apply zq|apply zb|apply zk)
 apply zr;intro _
 refine AWp.via (newρ 8) ⟨[(0, .sl ⟨1003, [b]⟩ N), (3, .sl 7 N), (9, .i64 N), (10, .i64 (0 : Nat))], [(7, .rows 91 1 N (cpR 8 k 0)), (8, famU (inD 0) k (fun ix => P b (ix.headD 0))), (1003, atS 1004 n vis N k), (1004, atW n vis N k P)]⟩ ?_ ?_
 ·refine ⟨?_, ?_, newρ_inj 8 _, newρ_old (by decide) _⟩
  ·repeat' (first|exact rfl|exact zt|exact ⟨b, hb, hv, rfl⟩|refine zi ?_ ?_)
  ·exact zi (zi ⟨_, ⟨_, rfl, rfl, zt⟩, Or.inr ⟨_, rfl, fun c hc => by rw [cpR_ge (Nat.not_lt_zero c)]; rfl⟩⟩ (fun q hq => cpR_refs fun c hc => absurd hc (Nat.not_lt_zero c))) (zi (fun z hz => absurd hz (fun ⟨j, hj, _⟩ => Nat.not_lt_zero j hj)) (zi (fun z hz => zi ⟨_, ⟨_, rfl, rfl, hz⟩, Or.inl ⟨_, rfl, fun i hi => rfl⟩⟩ (fun c hc => zi (atS_in hz hc) zt)) (zi (fun z hz => zi ⟨_, ⟨_, rfl, rfl, hz⟩, Or.inl ⟨_, rfl, fun i hi => rfl⟩⟩ zt) zt)))
 repeat (first|apply zq|apply zb|apply zk)
 refine AWp.loop (fun i : Nat => ⟨[(0, .sl ⟨1003, [b]⟩ N), (3, .sl 7 N), (9, .i64 N), (10, .i64 i)], [(7, .rows 91 1 N (cpR 8 k i)), (8, famU (inD i) k (fun ix => P b (ix.headD 0))), (1003, atS 1004 n vis N k), (1004, atW n vis N k P)]⟩) (fun i => i ≤ N) (fun i => N - i) 0 (Nat.zero_le _) ?_ ?_
 ·refine zi ?_ (zi ⟨_, _, rfl, rfl, fun i h => rfl⟩ (zi (fun q hq => cpR_refs fun c hc => ⟨c, hc, rfl⟩) (zi ⟨_, _, rfl, fun z h => ⟨h, _, _, rfl, rfl, fun i h => rfl⟩⟩ (zi (fun z h => zt) (zi ⟨_, _, rfl, fun z h => ⟨h, _, _, rfl, rfl, fun i h => rfl⟩⟩ (zi (fun z hz c hc => zi (atS_in hz hc) zt) (zi ⟨_, _, rfl, fun z h => ⟨h, _, _, rfl, rfl, fun i h => rfl⟩⟩ (zi (fun z h => zt) zt))))))))
  repeat' (first|exact rfl|exact zt|exact ⟨b, hb, hv, rfl⟩|refine zi ?_ ?_)
 intro i hi
 repeat (first|apply zq|apply zb|apply zk)
 apply zr;intro _
 repeat (first|apply zq|apply zb|apply zk)
 refine AWp.cond (zi (fun h1 => ?_) (fun h1 => ?_))
 ·have hi' : i < N := Int.ofNat_lt.1 (of_decide_eq_true h1)
  repeat (first|apply zq|apply zb|apply zk)
  apply zr;intro _
  repeat (first|apply zq|apply zb|apply zk)
  apply zr
  repeat' (first|exact zt|refine zi ?_ ?_|refine CallX.lend (m_Clone (D := wdD n vis N) (ix := [b, i]) ⟨b, i, hb, hv, hi', rfl⟩ (fun ix => P (ix.headD 0) (ix.getD 1 0)) hkk) [(1001, 1004), (7, 19)] rfl (zi rfl zt) rfl ?_|fail)
  all_goals first|exact fun _ => nn (hi')|exact fun _ => hi'|exact hi'|exact fun _ => (by first|exact ⟨b, hb, hv, rfl⟩|exact ⟨b, _, hb, hv, hi', rfl⟩)|skip
  intro _
  refine AWp.weaken (s' := ⟨[(0, .sl ⟨1003, [b]⟩ N), (3, .sl 7 N), (9, .i64 N), (10, .i64 i)], [(7, .rows 91 1 N (fun c => if c = i then [AV.sl ⟨19, []⟩ k] else cpR 8 k i c)), (19, famO k (P b i)), (8, famU (inD i) k (fun ix => P b (ix.headD 0))), (1003, atS 1004 n vis N k), (1004, atW n vis N k P)]⟩) ?_ ?_
  ·refine zi ?_ (zi (⟨_, _, rfl, rfl, ?_⟩) (zi (?_) (zi ⟨_, _, rfl, fun z h => ⟨h, _, _, rfl, rfl, fun i h => rfl⟩⟩ (zi (fun z h => zt) (zi ⟨_, _, rfl, fun z h => ⟨h, _, _, rfl, rfl, fun i h => rfl⟩⟩ (zi (fun z h => zt) (zi ⟨_, _, rfl, fun z h => ⟨h, _, _, rfl, rfl, fun i h => rfl⟩⟩ (zi (fun z hz c hc => zi (atS_in hz hc) zt) (zi ⟨_, _, rfl, fun z h => ⟨h, _, _, rfl, rfl, fun i h => rfl⟩⟩ (zi (fun z h => zt) zt))))))))))
   ·repeat' (first|exact rfl|exact zt|exact ⟨b, hb, hv, rfl⟩|refine zi ?_ ?_)
   ·intro c hc
    by_cases e : c = i
    ·subst e
     refine Eq.trans (if_pos rfl) (Eq.trans (one_put ((List.length_map _).trans cpR_len)) (if_pos rfl).symm)
    ·exact (if_neg e).trans ((cpR_keep fun _ => rfl).symm.trans (if_neg e).symm)
   ·intro c hc
    by_cases e : c = i
    ·subst e; show AV.refsPL _ (if c = c then _ else _); rw [if_pos rfl]; exact zi rfl zt
    ·show AV.refsPL _ (if c = i then _ else _); rw [if_neg e]; exact cpR_refs fun c hc => ⟨c, hc, rfl⟩
  refine AWp.via (putρ 8 i 19) ⟨[(0, .sl ⟨1003, [b]⟩ N), (3, .sl 7 N), (9, .i64 N), (10, .i64 i)], [(7, .rows 91 1 N (cpR 8 k (i + 1))), (8, famU (inD (i + 1)) k (fun ix => P b (ix.headD 0))), (1003, atS 1004 n vis N k), (1004, atW n vis N k P)]⟩ ?_ ?_
  ·refine ⟨?_, ?_, putρ_inj (fun h => h), putρ_old (by decide) _⟩
   ·repeat' (first|exact rfl|exact zt|exact ⟨b, hb, hv, rfl⟩|refine zi ?_ ?_)
   ·refine zi (zi ⟨_, ⟨_, rfl, rfl, zt⟩, Or.inl ⟨_, rfl, fun c hc => cpR_via⟩⟩ (fun q hq => cpR_refs fun c hc => ⟨c, hc, rfl⟩)) (zi (fun z hz => zi ?_ zt) (zi (fun z hz => zi ⟨_, ⟨_, rfl, rfl, hz⟩, Or.inl ⟨_, rfl, fun i hi => rfl⟩⟩ (fun c hc => zi (atS_in hz hc) zt)) (zi (fun z hz => zi ⟨_, ⟨_, rfl, rfl, hz⟩, Or.inl ⟨_, rfl, fun i hi => rfl⟩⟩ zt) zt)))
    obtain ⟨c, hc, rfl⟩ := hz
    unfold viaO
    by_cases e : c = i
    ·subst e
     rw [putρ_at]
     exact ⟨_, ⟨_, rfl, rfl, rfl⟩, Or.inl ⟨_, rfl, fun j hj => rfl⟩⟩
    ·rw [putρ_ne e]
     exact ⟨_, ⟨_, rfl, rfl, ⟨c, by omega, rfl⟩⟩, Or.inl ⟨_, rfl, fun j hj => rfl⟩⟩
  repeat (first|apply zq|apply zb|apply zk)
  apply zr;intro _
  refine round_end (i + 1) hi' ?_ (by omega)
  refine zi ?_ (zi ⟨_, _, rfl, rfl, fun i h => rfl⟩ (zi (fun q hq => cpR_refs fun c hc => ⟨c, hc, rfl⟩) (zi ⟨_, _, rfl, fun z h => ⟨h, _, _, rfl, rfl, fun i h => rfl⟩⟩ (zi (fun z h => zt) (zi ⟨_, _, rfl, fun z h => ⟨h, _, _, rfl, rfl, fun i h => rfl⟩⟩ (zi (fun z hz c hc => zi (atS_in hz hc) zt) (zi ⟨_, _, rfl, fun z h => ⟨h, _, _, rfl, rfl, fun i h => rfl⟩⟩ (zi (fun z h => zt) zt))))))))
  repeat' (first|exact rfl|exact zt|exact ⟨b, hb, hv, rfl⟩|exact congrArg (fun z => some (AV.i64 z)) (wrap_succ hi' hNm)|refine zi ?_ ?_)
 have hi3 : ¬ (i : Int) < N := of_decide_eq_false h1
 obtain rfl : i = N := by omega
 apply ze
 repeat (first|apply zq|apply zb|apply zk)
 apply zr;intro _
 refine AWp.ret ⟨Or.inl rfl, ?_⟩
 intro _
 exact zi rfl (zi rfl (zi (⟨_, _, rfl, rfl, fun i hi => (cpR_lt hi).symm⟩) (zi (fun i h => zi ⟨i, h, rfl⟩ zt) (zi ⟨_, _, rfl, fun z h => ⟨h, _, _, rfl, rfl, fun i h => rfl⟩⟩ (zi (fun z h => zt) (zi ⟨_, _, rfl, fun z h => ⟨h, _, _, rfl, rfl, fun i h => rfl⟩⟩ (zi (fun z hz c hc => zi (atS_in hz hc) zt) (zi ⟨_, _, rfl, fun z h => ⟨h, _, _, rfl, rfl, fun i h => rfl⟩⟩ (zi (fun z h => zt) zt)))))))))
theorem wrd0 {i : Nat} : [AV.int .u64 0] = bitC nonS i := congrArg (fun z => [AV.int .u64 z]) (wrd_zero.2 fun j hj => rfl).symm
set_option maxHeartbeats 4000000 in
theorem m_empty (f : Fun) (m : Mch) (o : Oup) {fr k : Nat} (hfr : fr ≤ 1000) (hfo : o.Frame = fr) (hvl : f.Values.length ≤ 160) (hk : k = nW f.Values.length) :
  ACallM B.P 89 ⟨[.ptr (jgL f m o)], [], .sl 11 (22 + fr), [(11, stR 90 (22 + fr) k), (90, stW (22 + fr) k (fun _ => nonS))]⟩ := by
 have hNm : 22 + fr ≤ maxLen := by unfold maxLen; omega
 have hw : IntKind.i64.wrap (22 + o.Frame) = ((22 + fr : Nat) : Int) := by rw [hfo, wrap_in (by omega) (by omega)]; omega
 have hd1 : IntKind.i64.wrap ((f.Values.length : Int) + 63) = ((f.Values.length + 63 : Nat) : Int) := (wrap_in (by omega) (by omega)).trans (by omega)
 have hd : IntKind.i64.wrap ((IntKind.i64.wrap ((f.Values.length : Int) + 63)).tdiv 64) = ((k : Nat) : Int) := by
  rw [hd1, hk]; exact w_div (v := f.Values.length + 63) (by omega)
 have hkk : k ≤ 4 := by subst hk; show (f.Values.length + 63) / 64 ≤ _; omega
 have hdn : (IntKind.i64.wrap ((IntKind.i64.wrap ((f.Values.length : Int) + 63)).tdiv 64)).toNat = k := by rw [hd]; rfl
 refine ACallM.enter B _ _ Try.func89 rfl rfl Try.ntmps89 Try.results89 rfl ?_ fun hreal => ?_
 ·refine zi zt (zi (zi zt zt) zt)
 clear hreal
 repeat (first|apply zq|apply zb|apply zk)
 apply zr;intro _
 repeat (first|apply zq|apply zb|apply zk)
 apply zr
 refine zi rfl (zi (by rw [hw]; exact Int.natCast_nonneg _) (zi (by rw [hw, Int.toNat_natCast]; omega) ?_))
 intro _
 refine AWp.weaken (s' := ⟨[(0, .ptr (jgL f m o)), (3, .sl 11 (22 + fr))], [(11, .row 91 1 (22 + fr) (fun _ => [nilV]))]⟩) ?_ ?_
 ·have hwn : (IntKind.i64.wrap (22 + o.Frame)).toNat = 22 + fr := by rw [hw]; rfl
  refine zi (zi rfl (zi zt (zi (congrArg (fun n => some (AV.sl ⟨11, []⟩ n)) hwn) (zi rfl zt)))) (zi ⟨_, _, rfl, hwn, fun i hi => rfl⟩ (zi zt zt))
 repeat (first|apply zq|apply zb|apply zk)
 apply zr;intro _
 refine AWp.via (newρ 90) ⟨[(0, .ptr (jgL f m o)), (3, .sl 11 (22 + fr)), (13, .i64 (((22 + fr) : Nat) : Int)), (14, .i64 (0 : Nat))], [(11, .rows 91 1 (22 + fr) (cpR 90 k 0)), (90, famU (inD 0) k (fun ix => nonS))]⟩ ?_ ?_
 ·refine ⟨?_, ?_, newρ_inj 90 _, newρ_old (by decide) _⟩
  ·repeat' (first|exact rfl|exact zt|apply zi)
  ·exact zi (zi ⟨_, ⟨_, rfl, rfl, zt⟩, Or.inr ⟨_, rfl, fun c hc => by rw [cpR_ge (Nat.not_lt_zero c)]; rfl⟩⟩ (fun q hq => cpR_refs fun c hc => absurd hc (Nat.not_lt_zero c))) (zi (fun z hz => absurd hz (fun ⟨j, hj, _⟩ => Nat.not_lt_zero j hj)) zt)
 repeat (first|apply zq|apply zb|apply zk)
 refine AWp.loop (fun i : Nat => ⟨[(0, .ptr (jgL f m o)), (3, .sl 11 (22 + fr)), (13, .i64 (((22 + fr) : Nat) : Int)), (14, .i64 i)], [(11, .rows 91 1 (22 + fr) (cpR 90 k i)), (90, famU (inD i) k (fun ix => nonS))]⟩) (fun i => i ≤ (22 + fr)) (fun i => (22 + fr) - i) 0 (Nat.zero_le _) ?_ ?_
 ·refine zi ?_ (zi ⟨_, _, rfl, rfl, fun i h => rfl⟩ (zi (fun q hq => cpR_refs fun c hc => ⟨c, hc, rfl⟩) (zi ⟨_, _, rfl, fun z h => ⟨h, _, _, rfl, rfl, fun i h => rfl⟩⟩ (zi (fun z h => zt) zt))))
  repeat' (first|exact rfl|exact zt|apply zi)
 intro i hi
 repeat (first|apply zq|apply zb|apply zk)
 apply zr;intro _
 repeat (first|apply zq|apply zb|apply zk)
 refine AWp.cond (zi (fun h1 => ?_) (fun h1 => ?_))
 ·have hi' : i < 22 + fr := Int.ofNat_lt.1 (of_decide_eq_true h1)
  repeat (first|apply zq|apply zb|apply zk)
  apply zr;intro _
  repeat (first|apply zq|apply zb|apply zk)
  apply zr
  repeat' (first|exact zt|refine zi ?_ ?_|fail)
  all_goals first|exact fun _ => nn (hi')|exact fun _ => hi'|exact hi'|exact rfl|exact (by decide : (64 : Int) ≠ 0)|exact (by rw [hd]; exact Int.natCast_nonneg _ : (0 : Int) ≤ IntKind.i64.wrap ((IntKind.i64.wrap ((f.Values.length : Int) + 63)).tdiv 64))|(rw [hdn]; omega)|skip
  intro _
  refine AWp.weaken (s' := ⟨[(0, .ptr (jgL f m o)), (3, .sl 11 (22 + fr)), (13, .i64 (((22 + fr) : Nat) : Int)), (14, .i64 i)], [(11, .rows 91 1 (22 + fr) (fun c => if c = i then [AV.sl ⟨27, []⟩ k] else cpR 90 k i c)), (27, rowU k nonS), (90, famU (inD i) k (fun ix => nonS))]⟩) ?_ ?_
  ·refine zi ?_ (zi (⟨_, _, rfl, rfl, ?_⟩) (zi (?_) (zi (⟨_, _, rfl, hdn, fun i hi => wrd0.symm⟩) (zi zt (zi ⟨_, _, rfl, fun z h => ⟨h, _, _, rfl, rfl, fun i h => rfl⟩⟩ (zi (fun z h => zt) zt))))))
   ·repeat' (first|exact rfl|exact zt|apply zi)
   ·intro c hc
    by_cases e : c = i
    ·subst e
     refine Eq.trans (if_pos rfl) (Eq.trans ?_ (if_pos rfl).symm)
     exact (congrArg (fun n => [AV.sl ⟨27, []⟩ n]) hdn.symm).trans (one_put cpR_len)
    ·exact (if_neg e).trans (if_neg e).symm
   ·intro c hc
    by_cases e : c = i
    ·subst e; show AV.refsPL _ (if c = c then _ else _); rw [if_pos rfl]; exact zi rfl zt
    ·show AV.refsPL _ (if c = i then _ else _); rw [if_neg e]; exact cpR_refs fun c hc => ⟨c, hc, rfl⟩
  refine AWp.via (putρ 90 i 27) ⟨[(0, .ptr (jgL f m o)), (3, .sl 11 (22 + fr)), (13, .i64 (((22 + fr) : Nat) : Int)), (14, .i64 i)], [(11, .rows 91 1 (22 + fr) (cpR 90 k (i + 1))), (90, famU (inD (i + 1)) k (fun ix => nonS))]⟩ ?_ ?_
  ·refine ⟨?_, ?_, putρ_inj (fun h => h), putρ_old (by decide) _⟩
   ·repeat' (first|exact rfl|exact zt|apply zi)
   ·refine zi (zi ⟨_, ⟨_, rfl, rfl, zt⟩, Or.inl ⟨_, rfl, fun c hc => cpR_via⟩⟩ (fun q hq => cpR_refs fun c hc => ⟨c, hc, rfl⟩)) (zi (fun z hz => zi ?_ zt) zt)
    obtain ⟨c, hc, rfl⟩ := hz
    unfold viaO
    by_cases e : c = i
    ·subst e
     rw [putρ_at]
     exact ⟨_, ⟨_, rfl, rfl, zt⟩, Or.inl ⟨_, rfl, fun j hj => rfl⟩⟩
    ·rw [putρ_ne e]
     exact ⟨_, ⟨_, rfl, rfl, ⟨c, by omega, rfl⟩⟩, Or.inl ⟨_, rfl, fun j hj => rfl⟩⟩
  repeat (first|apply zq|apply zb|apply zk)
  apply zr;intro _
  refine round_end (i + 1) hi' ?_ (by omega)
  refine zi ?_ (zi ⟨_, _, rfl, rfl, fun i h => rfl⟩ (zi (fun q hq => cpR_refs fun c hc => ⟨c, hc, rfl⟩) (zi ⟨_, _, rfl, fun z h => ⟨h, _, _, rfl, rfl, fun i h => rfl⟩⟩ (zi (fun z h => zt) zt))))
  repeat' (first|exact rfl|exact zt|exact congrArg (fun z => some (AV.i64 z)) (wrap_succ hi' hNm)|refine zi ?_ ?_)
 have hi3 : ¬ (i : Int) < ((22 + fr : Nat) : Int) := of_decide_eq_false h1
 obtain rfl : i = 22 + fr := by omega
 apply ze
 repeat (first|apply zq|apply zb|apply zk)
 apply zr;intro _
 refine AWp.ret ⟨Or.inl rfl, ?_⟩
 intro _
 exact zi rfl (zi rfl (zi (⟨_, _, rfl, rfl, fun i hi => (cpR_lt hi).symm⟩) (zi (fun i h => zi ⟨i, h, rfl⟩ zt) (zi ⟨_, _, rfl, fun z h => ⟨h, _, _, rfl, rfl, fun i h => rfl⟩⟩ (zi (fun z h => zt) zt)))))
def alC (ps az : List Int) (K : Knw) (i : Nat) : Knw := fun c => if c < i then alR ps az (K c) else K c
def alD (ps az : List Int) (K : Knw) (i j : Nat) : Knw := setK (alC ps az K i) i (drP ps (K i) j)
def alP (ps az : List Int) (K : Knw) (i j : Nat) : Knw := setK (alC ps az K i) i (ptP ps az (K i) (drP ps (K i) ps.length) j)
section
variable {ps az : List Int} {K : Knw} {i j c : Nat}
theorem alD_zero : alD ps az K i 0 c = alC ps az K i c := by
 unfold alD setK
 by_cases e : c = i
 ·subst e; rw [if_pos rfl]; exact (if_neg (Nat.lt_irrefl _)).symm
 ·rw [if_neg e]
theorem alD_at : alD ps az K i j i = drP ps (K i) j := if_pos rfl
theorem alP_at : alP ps az K i j i = ptP ps az (K i) (drP ps (K i) ps.length) j := if_pos rfl
theorem alD_succ : setK (alD ps az K i j) i (dropS (alD ps az K i j i) (ps.getD j default).toNat) c = alD ps az K i (j + 1) c := by
 rw [alD_at]
 unfold alD setK
 by_cases e : c = i
 ·rw [if_pos e, if_pos e]; rfl
 ·rw [if_neg e, if_neg e, if_neg e]
theorem alP_yes (h : K i (az.getD j default).toNat = true) : setK (alP ps az K i j) i (putS (alP ps az K i j i) (ps.getD j default).toNat) c = alP ps az K i (j + 1) c := by
 rw [alP_at]
 unfold alP setK
 by_cases e : c = i
 ·rw [if_pos e, if_pos e, ptP_yes h]
 ·rw [if_neg e, if_neg e, if_neg e]
theorem alP_no (h : ¬ K i (az.getD j default).toNat = true) : alP ps az K i (j + 1) = alP ps az K i j := by
 unfold alP; rw [ptP_no h]
theorem alP_done : alP ps az K i ps.length c = alC ps az K (i + 1) c := by
 unfold alP setK
 by_cases e : c = i
 ·subst e; rw [if_pos rfl]; exact (if_pos (Nat.lt_succ_self _)).symm
 ·rw [if_neg e]
  unfold alC
  by_cases g : c < i
  ·rw [if_pos g, if_pos (by omega)]
  ·rw [if_neg g, if_neg (by omega)]
end
theorem alC_all {f : Fun} {e : Edg} {K : Knw} {N : Nat} {z : List Nat} (h : inD N z) : alK f e K (z.headD 0) = alC (edgP f e) e.Args K N (z.headD 0) := by
 obtain ⟨c, hc, rfl⟩ := h
 exact (if_pos hc).symm
set_option maxHeartbeats 8000000 in
theorem m_along (f : Fun) (m : Mch) (o : Oup) {fr k : Nat} (hfr : fr ≤ 1000) (hvl : f.Values.length ≤ 160) (hk : k = nW f.Values.length) (K : Knw) (e : Edg) (he : 0 ≤ e.Block ∧ e.Block < f.Blocks.length) (hpl : (edgP f e).length ≤ 5) (hal : (edgP f e).length = e.Args.length) (hps : ∀ j, j < (edgP f e).length → 0 ≤ (edgP f e).getD j default ∧ (edgP f e).getD j default < f.Values.length) (haz : ∀ j, j < e.Args.length → 0 ≤ e.Args.getD j default ∧ e.Args.getD j default < f.Values.length) :
  ACallM B.P 92 ⟨[.ptr (jgL f m o), .sl 1001 (22 + fr), e.av], stH (22 + fr) k K, .sl 7 (22 + fr), [(7, stR 8 (22 + fr) k), (8, stW (22 + fr) k (alK f e K)), (1001, stR 1002 (22 + fr) k), (1002, stW (22 + fr) k K)]⟩ := by
 have hNm : 22 + fr ≤ maxLen := by unfold maxLen; omega
 have hpm : (edgP f e).length ≤ maxLen := by unfold maxLen; omega
 have hkk : k ≤ 1000000 := by subst hk; show (f.Values.length + 63) / 64 ≤ _; omega
 have hvp : ∀ j, j < (edgP f e).length → ((((edgP f e).getD j default).toNat : Nat) : Int) = (edgP f e).getD j default ∧ ((edgP f e).getD j default).toNat / 64 < k ∧ ((edgP f e).getD j default).toNat ≤ 1000000 := fun j hj => by
  have h := hps j hj
  subst hk
  refine ⟨by omega, ?_, by omega⟩
  show _ < (f.Values.length + 63) / 64
  omega
 have hva : ∀ j, j < e.Args.length → (((e.Args.getD j default).toNat : Nat) : Int) = e.Args.getD j default ∧ (e.Args.getD j default).toNat / 64 < k ∧ (e.Args.getD j default).toNat ≤ 1000000 := fun j hj => by
  have h := haz j hj
  subst hk
  refine ⟨by omega, ?_, by omega⟩
  show _ < (f.Values.length + 63) / 64
  omega
 refine ACallM.enter B _ _ Try.func92 rfl rfl Try.ntmps92 Try.results92 rfl ?_ fun hreal => ?_
 ·refine zi stH_refs (zi ?_ (zi zt (zi (fun ix h => h) zt)))
  repeat' (first|exact rfl|exact zt|apply zi)
 clear hreal
 repeat (first|apply zq|apply zb|apply zk)
 apply zr;intro _
 refine AWp.freezeObj 5 rfl rfl ?_
 repeat (first|apply zq|apply zb|apply zk)
 refine AWp.quietP (.q 0 (.q 1 (.q 2 (.q 3 (.q 4 (.q 5 (.q 6 (.q 7 (.q 8 (.q 9 (.q 10 .fin))))))))))) [0, 1, 2, 3, 4, 5, 6, 7, 8, 9, 10] [1001, 1002] mixed (by kernel_rfl) ?_
 repeat' (first|exact zt|refine zi ?_ ?_|fail)
 all_goals first|exact fun _ => he|skip
 intro _
 repeat (first|apply zq|apply zb|apply zk)
 apply zr
 repeat' (first|exact zt|refine zi ?_ ?_|refine CallX.lend (m_copied (N := 22 + fr) (by omega) hkk K) [(1001, 1001), (1002, 1002), (7, 7), (8, 8)] rfl (zi rfl (zi rfl zt)) rfl ?_|fail)
 intro _
 repeat (first|apply zq|apply zb|apply zk)
 apply zr;intro _
 repeat (first|apply zq|apply zb|apply zk)
 refine AWp.loop (fun i : Nat => ⟨[(1, .sl 1001 (22 + fr)), (5, .ptr e.cells), (7, ints (edgP f e)), (8, .sl 7 (22 + fr)), (27, .i64 (((22 + fr) : Nat) : Int)), (28, .i64 i)], [(7, stR 8 (22 + fr) k), (8, stW (22 + fr) k (alC (edgP f e) e.Args K i)), (1001, stR 1002 (22 + fr) k), (1002, stW (22 + fr) k K)]⟩) (fun i => i ≤ 22 + fr) (fun i => 22 + fr - i) 0 (Nat.zero_le _) ?_ ?_
 ·refine zi ?_ (zi ⟨_, _, rfl, rfl, fun i h => rfl⟩ (zi (fun i h => zi ⟨i, h, rfl⟩ zt) (zi ⟨_, _, rfl, fun z h => ⟨h, _, _, rfl, rfl, fun i h => rfl⟩⟩ (zi (fun z h => zt) (zi ⟨_, _, rfl, rfl, fun i h => rfl⟩ (zi (fun i h => zi ⟨i, h, rfl⟩ zt) (zi ⟨_, _, rfl, fun z h => ⟨h, _, _, rfl, rfl, fun i h => rfl⟩⟩ (zi (fun z h => zt) zt))))))))
  repeat' (first|exact rfl|exact zt|apply zi)
 intro i hi
 repeat (first|apply zq|apply zb|apply zk)
 apply zr;intro _
 repeat (first|apply zq|apply zb|apply zk)
 refine AWp.cond (zi (fun h1 => ?_) (fun h1 => ?_))
 ·have hi' : i < 22 + fr := Int.ofNat_lt.1 (of_decide_eq_true h1)
  repeat (first|apply zq|apply zb|apply zk)
  apply zr;intro _
  repeat (first|apply zq|apply zb|apply zk)
  apply zr;intro _
  repeat (first|apply zq|apply zb|apply zk)
  refine AWp.loop (fun j : Nat => ⟨[(1, .sl 1001 (22 + fr)), (5, .ptr e.cells), (7, ints (edgP f e)), (8, .sl 7 (22 + fr)), (9, .i64 i), (27, .i64 (((22 + fr) : Nat) : Int)), (28, .i64 i), (31, ints (edgP f e)), (32, .i64 (edgP f e).length), (33, .i64 j)], [(7, stR 8 (22 + fr) k), (8, stW (22 + fr) k (alD (edgP f e) e.Args K i j)), (1001, stR 1002 (22 + fr) k), (1002, stW (22 + fr) k K)]⟩) (fun j => j ≤ (edgP f e).length) (fun j => (edgP f e).length - j) 0 (Nat.zero_le _) ?_ ?_
  ·refine zi ?_ (zi ⟨_, _, rfl, rfl, fun i h => rfl⟩ (zi (fun i h => zi ⟨i, h, rfl⟩ zt) (zi (⟨_, _, rfl, fun z hz => ⟨hz, _, _, rfl, rfl, fun i hi => congrArg (fun q => bitC q i) (alD_zero)⟩⟩) (zi (fun z h => zt) (zi ⟨_, _, rfl, rfl, fun i h => rfl⟩ (zi (fun i h => zi ⟨i, h, rfl⟩ zt) (zi ⟨_, _, rfl, fun z h => ⟨h, _, _, rfl, rfl, fun i h => rfl⟩⟩ (zi (fun z h => zt) zt))))))))
   repeat' (first|exact rfl|exact zt|apply zi)
  intro j hj
  repeat (first|apply zq|apply zb|apply zk)
  apply zr;intro _
  repeat (first|apply zq|apply zb|apply zk)
  refine AWp.cond (zi (fun h2 => ?_) (fun h2 => ?_))
  ·have hj' : j < (edgP f e).length := Int.ofNat_lt.1 (of_decide_eq_true h2)
   repeat (first|apply zq|apply zb|apply zk)
   apply zr
   refine zi (fun _ => nn (hj')) ?_
   intro _
   repeat (first|apply zq|apply zb|apply zk)
   apply zr
   repeat' (first|exact zt|refine zi ?_ ?_|refine CallX.lend (m_DropZ (D := inD (22 + fr)) (ix := [i]) ⟨_, hi', rfl⟩ (fun ix => alD (edgP f e) e.Args K i j (ix.headD 0)) (hvp j hj').1 (hvp j hj').2.1 (hvp j hj').2.2) [(1001, 8)] rfl (zi rfl zt) rfl ?_|fail)
   all_goals first|exact fun _ => nn (hi')|exact fun _ => hi'|skip
   intro _
   repeat (first|apply zq|apply zb|apply zk)
   apply zr;intro _
   refine round_end (j + 1) hj' ?_ (by omega)
   refine zi ?_ (zi ⟨_, _, rfl, rfl, fun i h => rfl⟩ (zi (fun i h => zi ⟨i, h, rfl⟩ zt) (zi (⟨_, _, rfl, fun z hz => ⟨hz, _, _, rfl, rfl, fun i hi => congrArg (fun q => bitC q i) ((setF_K hz).trans alD_succ |>.symm)⟩⟩) (zi (fun z h => zt) (zi ⟨_, _, rfl, rfl, fun i h => rfl⟩ (zi (fun i h => zi ⟨i, h, rfl⟩ zt) (zi ⟨_, _, rfl, fun z h => ⟨h, _, _, rfl, rfl, fun i h => rfl⟩⟩ (zi (fun z h => zt) zt))))))))
   repeat' (first|exact rfl|exact zt|exact congrArg (fun z => some (AV.i64 z)) (wrap_succ hj' hpm)|refine zi ?_ ?_)
  ·have hj3 : ¬ (j : Int) < (edgP f e).length := of_decide_eq_false h2
   obtain rfl : j = (edgP f e).length := by omega
   apply ze
   repeat (first|apply zq|apply zb|apply zk)
   apply zr;intro _
   repeat (first|apply zq|apply zb|apply zk)
   refine AWp.loop (fun j : Nat => ⟨[(1, .sl 1001 (22 + fr)), (5, .ptr e.cells), (7, ints (edgP f e)), (8, .sl 7 (22 + fr)), (9, .i64 i), (27, .i64 (((22 + fr) : Nat) : Int)), (28, .i64 i), (44, ints (edgP f e)), (45, .i64 (edgP f e).length), (46, .i64 j)], [(7, stR 8 (22 + fr) k), (8, stW (22 + fr) k (alP (edgP f e) e.Args K i j)), (1001, stR 1002 (22 + fr) k), (1002, stW (22 + fr) k K)]⟩) (fun j => j ≤ (edgP f e).length) (fun j => (edgP f e).length - j) 0 (Nat.zero_le _) ?_ ?_
   ·refine zi ?_ (zi ⟨_, _, rfl, rfl, fun i h => rfl⟩ (zi (fun i h => zi ⟨i, h, rfl⟩ zt) (zi ⟨_, _, rfl, fun z h => ⟨h, _, _, rfl, rfl, fun i h => rfl⟩⟩ (zi (fun z h => zt) (zi ⟨_, _, rfl, rfl, fun i h => rfl⟩ (zi (fun i h => zi ⟨i, h, rfl⟩ zt) (zi ⟨_, _, rfl, fun z h => ⟨h, _, _, rfl, rfl, fun i h => rfl⟩⟩ (zi (fun z h => zt) zt))))))))
    repeat' (first|exact rfl|exact zt|apply zi)
   intro j hj
   repeat (first|apply zq|apply zb|apply zk)
   apply zr;intro _
   repeat (first|apply zq|apply zb|apply zk)
   refine AWp.cond (zi (fun h3 => ?_) (fun h3 => ?_))
   ·have hj' : j < (edgP f e).length := Int.ofNat_lt.1 (of_decide_eq_true h3)
    repeat (first|apply zq|apply zb|apply zk)
    apply zr
    refine zi (fun _ => nn (hj')) ?_
    intro _
    repeat (first|apply zq|apply zb|apply zk)
    refine AWp.quietP (.q 0 (.q 1 (.q 2 (.q 4 (.q 5 (.q 6 (.q 7 (.q 8 (.c 3 false (.c 9 true .fin .no) .no))))))))) [0, 1, 2, 4, 5, 6, 7, 8] [] mixed (by kernel_rfl) ?_
    repeat' (first|exact zt|refine zi ?_ ?_|refine CallX.lend (m_HasZ (D := inD (22 + fr)) (ix := [i]) ⟨_, hi', rfl⟩ (fun ix => K (ix.headD 0)) (hva j (by rw [← hal]; exact hj')).1 (hva j (by rw [← hal]; exact hj')).2.1 (hva j (by rw [← hal]; exact hj')).2.2) [(1001, 1002)] rfl (zi rfl zt) rfl ?_|fail)
    all_goals first|exact fun _ => nn (hi')|exact fun _ => hi'|exact fun _ => nn ((by rw [← hal]; exact hj'))|skip
    intro _
    repeat (first|apply zq|apply zb|apply zk)
    refine AWp.cond (zi (fun h4 => ?_) (fun h4 => ?_))
    ·repeat (first|apply zq|apply zb|apply zk)
     apply zr
     repeat' (first|exact zt|refine zi ?_ ?_|refine CallX.lend (m_PutZ (D := inD (22 + fr)) (ix := [i]) ⟨_, hi', rfl⟩ (fun ix => alP (edgP f e) e.Args K i j (ix.headD 0)) (hvp j hj').1 (hvp j hj').2.1 (hvp j hj').2.2) [(1001, 8)] rfl (zi rfl zt) rfl ?_|fail)
     all_goals first|exact fun _ => nn (hi')|exact fun _ => hi'|skip
     intro _
     repeat (first|apply zq|apply zb|apply zk)
     apply zr;intro _
     refine round_end (j + 1) hj' ?_ (by omega)
     refine zi ?_ (zi ⟨_, _, rfl, rfl, fun i h => rfl⟩ (zi (fun i h => zi ⟨i, h, rfl⟩ zt) (zi (⟨_, _, rfl, fun z hz => ⟨hz, _, _, rfl, rfl, fun i hi => congrArg (fun q => bitC q i) (((setF_K hz).trans (alP_yes h4)).symm)⟩⟩) (zi (fun z h => zt) (zi ⟨_, _, rfl, rfl, fun i h => rfl⟩ (zi (fun i h => zi ⟨i, h, rfl⟩ zt) (zi ⟨_, _, rfl, fun z h => ⟨h, _, _, rfl, rfl, fun i h => rfl⟩⟩ (zi (fun z h => zt) zt))))))))
     repeat' (first|exact rfl|exact zt|exact congrArg (fun z => some (AV.i64 z)) (wrap_succ hj' hpm)|refine zi ?_ ?_)
    ·have e4 := alP_no (ps := edgP f e) (az := e.Args) (K := K) (i := i) (j := j) (fun h => by rw [show K i (e.Args.getD j default).toNat = false from h4] at h; cases h)
     repeat (first|apply zq|apply zb|apply zk)
     apply zr;intro _
     refine round_end (j + 1) hj' ?_ (by omega)
     rw [e4]
     refine zi ?_ (zi ⟨_, _, rfl, rfl, fun i h => rfl⟩ (zi (fun i h => zi ⟨i, h, rfl⟩ zt) (zi ⟨_, _, rfl, fun z h => ⟨h, _, _, rfl, rfl, fun i h => rfl⟩⟩ (zi (fun z h => zt) (zi ⟨_, _, rfl, rfl, fun i h => rfl⟩ (zi (fun i h => zi ⟨i, h, rfl⟩ zt) (zi ⟨_, _, rfl, fun z h => ⟨h, _, _, rfl, rfl, fun i h => rfl⟩⟩ (zi (fun z h => zt) zt))))))))
     repeat' (first|exact rfl|exact zt|exact congrArg (fun z => some (AV.i64 z)) (wrap_succ hj' hpm)|refine zi ?_ ?_)
   ·have hj4 : ¬ (j : Int) < (edgP f e).length := of_decide_eq_false h3
    obtain rfl : j = (edgP f e).length := by omega
    apply ze
    repeat (first|apply zq|apply zb|apply zk)
    apply zr;intro _
    refine round_end (i + 1) hi' ?_ (by omega)
    refine zi ?_ (zi ⟨_, _, rfl, rfl, fun i h => rfl⟩ (zi (fun i h => zi ⟨i, h, rfl⟩ zt) (zi (⟨_, _, rfl, fun z hz => ⟨hz, _, _, rfl, rfl, fun i hi => congrArg (fun q => bitC q i) (alP_done.symm)⟩⟩) (zi (fun z h => zt) (zi ⟨_, _, rfl, rfl, fun i h => rfl⟩ (zi (fun i h => zi ⟨i, h, rfl⟩ zt) (zi ⟨_, _, rfl, fun z h => ⟨h, _, _, rfl, rfl, fun i h => rfl⟩⟩ (zi (fun z h => zt) zt))))))))
    repeat' (first|exact rfl|exact zt|exact congrArg (fun z => some (AV.i64 z)) (wrap_succ hi' hNm)|refine zi ?_ ?_)
 ·have hi3 : ¬ (i : Int) < ((22 + fr : Nat) : Int) := of_decide_eq_false h1
  obtain rfl : i = 22 + fr := by omega
  apply ze
  repeat (first|apply zq|apply zb|apply zk)
  apply zr;intro _
  refine AWp.ret ⟨Or.inl rfl, ?_⟩
  intro _
  exact zi rfl (zi rfl (zi ⟨_, _, rfl, rfl, fun i h => rfl⟩ (zi (fun i h => zi ⟨i, h, rfl⟩ zt) (zi (⟨_, _, rfl, fun z hz => ⟨hz, _, _, rfl, rfl, fun i hi => congrArg (fun q => bitC q i) (alC_all hz)⟩⟩) (zi (fun z h => zt) (zi ⟨_, _, rfl, rfl, fun i h => rfl⟩ (zi (fun i h => zi ⟨i, h, rfl⟩ zt) (zi ⟨_, _, rfl, fun z h => ⟨h, _, _, rfl, rfl, fun i h => rfl⟩⟩ (zi (fun z h => zt) zt)))))))))
end Go.Proofs.Ytjjgjflbhpoloaa
