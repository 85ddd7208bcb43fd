/- Plain: graphs, orders of blocks, dominators. No condition. -/
set_option linter.unusedVariables false
set_option linter.unusedSimpArgs false
/- Plain: graphs, ways, who dominates whom, trees of idoms. No condition. -/
namespace Go.Abs.Gra

/-- One can come to a block without passing w. -/
inductive Rch (sc : Nat → List Nat) (w : Int) : Nat → Prop
  | root : w ≠ 0 → Rch sc w 0
  | step {a b : Nat} : Rch sc w a → b ∈ sc a → (b : Int) ≠ w → Rch sc w b
theorem Rch.ne {sc : Nat → List Nat} {w : Int} {b : Nat} (h : Rch sc w b) : (b : Int) ≠ w := by
  cases h with
  | root h => exact fun e => h (by omega)
  | step _ _ h => exact h

/-- Ancestors by d. -/
inductive Anc (d : Nat → Int) : Nat → Nat → Prop
  | refl (a : Nat) : Anc d a a
  | up {a b c : Nat} : b ≠ 0 → d b = (c : Int) → Anc d a c → Anc d a b
theorem Anc.trans {d : Nat → Int} {a b c : Nat} (h1 : Anc d a b) (h2 : Anc d b c) : Anc d a c := by
  induction h2 with
  | refl => exact h1
  | up h3 h4 _ ih => exact .up h3 h4 ih
theorem Anc.inv {d : Nat → Int} {a b : Nat} (h : Anc d a b) : a = b ∨ ∃ c : Nat, b ≠ 0 ∧ d b = (c : Int) ∧ Anc d a c := by
  cases h with
  | refl => exact .inl rfl
  | up h1 h2 h3 => exact .inr ⟨_, h1, h2, h3⟩
theorem Anc.zero {d : Nat → Int} {a : Nat} (h : Anc d a 0) : a = 0 := by
  rcases h.inv with h | ⟨c, h, _⟩
  · exact h
  · exact absurd rfl h

/-- The graph: n blocks, ranks, preds, successors. -/
structure G (n : Nat) (pl : Nat → Nat) (pr sc : Nat → List Nat) : Prop where
  inj : ∀ a b, a < n → b < n → pl a = pl b → a = b
  zero : pl 0 = 0
  pos : 0 < n
  lt : ∀ a, a < n → pl a < n
  prlt : ∀ b p, p ∈ pr b → p < n
  edge : ∀ b p, b < n → (p ∈ pr b ↔ p < n ∧ b ∈ sc p)
  fwd : ∀ b, b < n → b ≠ 0 → ∃ p, p ∈ pr b ∧ pl p < pl b
  root : ∀ p, p < n → ¬ 0 ∈ sc p
  sclt : ∀ p b, p < n → b ∈ sc p → b < n
variable {n : Nat} {pl : Nat → Nat} {pr sc : Nat → List Nat}

theorem G.rlt (g : G n pl pr sc) {w : Int} {b : Nat} (h : Rch sc w b) : b < n := by
  induction h with
  | root _ => exact g.pos
  | step _ h2 _ ih => exact g.sclt _ _ ih h2
/-- A tree of idoms, perhaps not yet of all: who has one has one of lower rank that has one. -/
structure WF (n : Nat) (pl : Nat → Nat) (d : Nat → Int) : Prop where
  zero : d 0 = 0
  low : ∀ b, b < n → b ≠ 0 → 0 ≤ d b → ∃ c : Nat, d b = (c : Int) ∧ c < n ∧ pl c < pl b ∧ 0 ≤ d c
theorem WF.anc {d : Nat → Int} (h : WF n pl d) {a b : Nat} (ha : Anc d a b) (hb : b < n) (hd : 0 ≤ d b) : a < n ∧ 0 ≤ d a ∧ (a = b ∨ pl a < pl b) := by
  induction ha with
  | refl => exact ⟨hb, hd, .inl rfl⟩
  | up h1 h2 _ ih =>
    obtain ⟨c', e, h3, h4, h5⟩ := h.low _ hb h1 hd
    rw [e] at h2
    have : c' = _ := Int.ofNat.inj h2
    subst this
    obtain ⟨q1, q2, q3⟩ := ih h3 h5
    exact ⟨q1, q2, .inr (by rcases q3 with rfl | q3 <;> omega)⟩
theorem WF.le {d : Nat → Int} (h : WF n pl d) {a b : Nat} (ha : Anc d a b) (hb : b < n) (hd : 0 ≤ d b) : pl a ≤ pl b := by
  rcases (h.anc ha hb hd).2.2 with rfl | h
  · exact Nat.le_refl _
  · omega
theorem WF.tot {d : Nat → Int} (h : WF n pl d) {a b x : Nat} (ha : Anc d a x) (hb : Anc d b x) (hx : x < n) (hd : 0 ≤ d x) (hl : pl a ≤ pl b) : Anc d a b := by
  induction hb with
  | refl => exact ha
  | up h1 h2 h3 ih =>
    obtain ⟨c', e, q3, q4, q5⟩ := h.low _ hx h1 hd
    rw [e] at h2
    have : c' = _ := Int.ofNat.inj h2
    subst this
    rcases ha.inv with rfl | ⟨c, _, e2, ha⟩
    · have := h.le h3 q3 q5; omega
    · rw [e] at e2
      have : c' = c := Int.ofNat.inj e2
      subst this
      exact ih ha q3 q5
theorem WF.root {d : Nat → Int} (h : WF n pl d) : ∀ (k : Nat) {b : Nat}, pl b ≤ k → b < n → 0 ≤ d b → Anc d 0 b
  | k, b, hk, hb, hd => by
    by_cases e : b = 0
    · subst e; exact .refl _
    · obtain ⟨c, e1, h3, h4, h5⟩ := h.low b hb e hd
      match k, hk with
      | 0, hk => omega
      | k + 1, hk => exact .up e e1 (h.root k (by omega) h3 h5)

def upd (d : Nat → Int) (x : Nat) (v : Int) : Nat → Int := fun i => if i = x then v else d i
theorem upd_at {d : Nat → Int} {x : Nat} {v : Int} : upd d x v x = v := if_pos rfl
theorem upd_ne {d : Nat → Int} {x i : Nat} {v : Int} (h : i ≠ x) : upd d x v i = d i := if_neg h
/-- Chains that do not go through x stay. -/
theorem anc_upd {d : Nat → Int} {x : Nat} {v : Int} {a y : Nat} (hx : ¬ Anc d x y) : Anc (upd d x v) a y ↔ Anc d a y := by
  constructor
  · intro h
    induction h with
    | refl => exact .refl _
    | @up b c h1 h2 _ ih =>
      have e : b ≠ x := fun e => hx (e ▸ .refl _)
      rw [upd_ne e] at h2
      exact .up h1 h2 (ih fun h => hx (.up h1 h2 h))
  · intro h
    induction h with
    | refl => exact .refl _
    | @up b c h1 h2 _ ih =>
      have e : b ≠ x := fun e => hx (e ▸ .refl _)
      exact .up h1 (by rw [upd_ne e]; exact h2) (ih fun h => hx (.up h1 h2 h))
/-- What lies between x and y stays. -/
theorem anc_keep {d : Nat → Int} {x : Nat} {v : Int} {a y : Nat} (hay : Anc d a y) (hnl : ∀ z, Anc d z y → Anc d a z → z = x → a = x) : Anc (upd d x v) a y := by
  induction hay with
  | refl => exact .refl _
  | @up b c h1 h2 h3 ih =>
    by_cases e : b = x
    · have := hnl b (.refl _) (.up h1 h2 h3) e
      rw [e, this]; exact .refl _
    · exact .up h1 (by rw [upd_ne e]; exact h2) (ih fun z hz hz2 => hnl z (.up h1 h2 hz) hz2)
/-- In a tree: what is at x or below stays on the chain. -/
theorem WF.keep {d : Nat → Int} (h : WF n pl d) {x a y : Nat} {v : Int} (hy : y < n) (hd : 0 ≤ d y) (hay : Anc d a y) (hl : pl x ≤ pl a) (hxy : Anc d x y) : Anc (upd d x v) a y := by
  have hxa := h.tot hxy hay hy hd hl
  refine anc_keep hay fun z hz hz2 e => ?_
  subst e
  have h1 := h.anc hz hy hd
  have h2 := (h.anc hz2 h1.1 h1.2.1).2.2
  rcases h2 with h2 | h2
  · exact h2
  · omega
end Go.Abs.Gra

/- Plain: the making of the idoms, round by round (Cooper, Harvey and Kennedy). No condition. -/
namespace Go.Abs.Gra
variable {n : Nat} {pl : Nat → Nat} {pr sc : Nat → List Nat}

/-- A way from a to b, all behind a of rank above m. -/
inductive Way (sc : Nat → List Nat) (pl : Nat → Nat) (m : Nat) : Nat → Nat → Prop
  | nil (a : Nat) : Way sc pl m a a
  | snoc {a b c : Nat} : Way sc pl m a b → c ∈ sc b → m < pl c → Way sc pl m a c
theorem Way.trans {m a b c : Nat} (h1 : Way sc pl m a b) (h2 : Way sc pl m b c) : Way sc pl m a c := by
  induction h2 with
  | nil => exact h1
  | snoc _ h3 h4 ih => exact .snoc ih h3 h4
theorem Way.mono {m m' a b : Nat} (h : Way sc pl m a b) (hm : m' ≤ m) : Way sc pl m' a b := by
  induction h with
  | nil => exact .nil _
  | snoc _ h3 h4 ih => exact .snoc ih h3 (by omega)
theorem Way.rch {m a b c : Nat} (h : Way sc pl m a b) (ha : Rch sc c a) (hc : pl c ≤ m) : Rch sc c b := by
  induction h with
  | nil => exact ha
  | @snoc b c' _ h3 h4 ih => exact .step ih h3 (fun e => by have : c' = c := Int.ofNat.inj e; subst this; omega)

/-- What holds of the idoms at any time. -/
structure Inv (n : Nat) (pl : Nat → Nat) (sc : Nat → List Nat) (d : Nat → Int) : Prop where
  wf : WF n pl d
  td : ∀ y, y < n → 0 ≤ d y → ∀ c : Nat, ¬ Rch sc c y → Anc d c y
  way : ∀ y c : Nat, y < n → y ≠ 0 → d y = (c : Int) → Way sc pl (pl c) c y
theorem Inv.chain {d : Nat → Int} (h : Inv n pl sc d) {x y : Nat} (hxy : Anc d x y) (hy : y < n) (hd : 0 ≤ d y) : Way sc pl (pl x) x y := by
  induction hxy with
  | refl => exact .nil _
  | @up b c h1 h2 h3 ih =>
    obtain ⟨c', e, q3, q4, q5⟩ := h.wf.low _ hy h1 hd
    rw [e] at h2
    have : c' = c := Int.ofNat.inj h2
    subst this
    exact (ih q3 q5).trans ((h.way _ _ hy h1 e).mono (h.wf.le h3 q3 q5))
/-- c is next ahead of all preds of x that have an idom. -/
structure Nx (d : Nat → Int) (L : List Nat) (c : Nat) : Prop where
  some : ∃ p ∈ L, 0 ≤ d p
  anc : ∀ y, Anc d y c ↔ ∀ p ∈ L, 0 ≤ d p → Anc d y p
variable {d : Nat → Int} {x c i : Nat}
theorem nx_upd (h : Inv n pl sc d) {y z : Nat} {v : Int} (hz : z < n) (hdz : 0 ≤ d z) (hl : pl z < pl x) : Anc (upd d x v) y z ↔ Anc d y z :=
  anc_upd fun ha => by have := h.wf.le ha hz hdz; omega
section
variable (g : G n pl pr sc) (h : Inv n pl sc d) (hx : x < n) (h0 : x ≠ 0) (hN : Nx d (pr x) c) (hlow : ∀ y, y < n → pl y < pl x → 0 ≤ d y)
include g h hx h0 hN hlow
theorem nx_low : c < n ∧ pl c < pl x ∧ 0 ≤ d c ∧ ∃ p, p ∈ pr x ∧ pl p < pl x ∧ 0 ≤ d p ∧ Anc d c p := by
  obtain ⟨p, h1, h2⟩ := g.fwd x hx h0
  have hp := g.prlt _ _ h1
  have hdp := hlow p hp h2
  have ha := (hN.anc c).1 (.refl _) p h1 hdp
  obtain ⟨q1, q2, q3⟩ := h.wf.anc ha hp hdp
  exact ⟨q1, by rcases q3 with rfl | q3 <;> omega, q2, p, h1, h2, hdp, ha⟩
theorem nx_inv : Inv n pl sc (upd d x c) := by
  obtain ⟨hc, hcl, hdc, p0, hp0, hpl0, hdp0, hcp0⟩ := nx_low g h hx h0 hN hlow
  have hpn := g.prlt _ _ hp0
  have hedge : ∀ p, p ∈ pr x → x ∈ sc p := fun p hp => ((g.edge x p hx).1 hp).2
  have hcx : c ≠ x := fun e => by subst e; omega
  have key : ∀ a : Nat, ¬ Rch sc a x → a ≠ x → Anc d a c := fun a ha hax => by
    refine (hN.anc a).2 fun p hp hdp => h.td p (g.prlt _ _ hp) hdp a fun hr => ha (.step hr (hedge p hp) fun e => hax (Int.ofNat.inj e).symm)
  refine ⟨⟨by rw [upd_ne (fun e => h0 e.symm)]; exact h.wf.zero, fun b hb hb0 hd => ?_⟩, fun y hy hd a ha => ?_, fun y b hy hy0 hd => ?_⟩
  · by_cases e : b = x
    · subst e; exact ⟨c, upd_at, hc, hcl, by rw [upd_ne hcx]; exact hdc⟩
    · rw [upd_ne e] at hd ⊢
      obtain ⟨c', q1, q2, q3, q4⟩ := h.wf.low b hb hb0 hd
      refine ⟨c', q1, q2, q3, ?_⟩
      by_cases e2 : c' = x
      · subst e2; rw [upd_at]; omega
      · rw [upd_ne e2]; exact q4
  · by_cases e : y = x
    · subst e
      by_cases hax : a = y
      · subst hax; exact .refl _
      · exact .up h0 upd_at ((nx_upd h hc hdc hcl).2 (key a ha hax))
    · rw [upd_ne e] at hd
      have hay := h.td y hy hd a ha
      by_cases hxy : Anc d x y
      · by_cases hl : pl x ≤ pl a
        · exact h.wf.keep hy hd hay hl hxy
        · have hax : a ≠ x := fun e => by subst e; omega
          have hnr : ¬ Rch sc a x := fun hr => ha ((h.chain hxy hy hd).rch hr (by omega))
          have h1 : Anc (upd d x c) a x := .up h0 upd_at ((nx_upd h hc hdc hcl).2 (key a hnr hax))
          exact h1.trans (h.wf.keep hy hd hxy (Nat.le_refl _) hxy)
      · exact (anc_upd hxy).2 hay
  · by_cases e : y = x
    · subst e
      rw [upd_at] at hd
      have : c = b := Int.ofNat.inj hd
      subst this
      exact .snoc (h.chain hcp0 hpn hdp0) (hedge p0 hp0) hcl
    · rw [upd_ne e] at hd
      exact h.way y b hy hy0 hd
end

/-- The first round, all of rank below i done. -/
structure Fst (n : Nat) (pl : Nat → Nat) (pr sc : Nat → List Nat) (d : Nat → Int) (i : Nat) : Prop where
  inv : Inv n pl sc d
  pos : 1 ≤ i
  done : ∀ y, y < n → pl y < i → 0 ≤ d y
  not : ∀ y, y < n → i ≤ pl y → d y < 0
  e : ∀ y p b : Nat, y < n → y ≠ 0 → pl y < i → p ∈ pr y → pl p < pl y → d y = (b : Int) → Anc d b p
  f : ∀ y a b : Nat, y < n → y ≠ 0 → pl y < i → d y = (b : Int) → (∀ p ∈ pr y, pl p < pl y → Anc d a p) → Anc d a b
/-- All have an idom; how it stands to those of the preds. -/
structure Full (n : Nat) (pl : Nat → Nat) (pr sc : Nat → List Nat) (d : Nat → Int) : Prop where
  inv : Inv n pl sc d
  done : ∀ y, y < n → 0 ≤ d y
  e : ∀ y p b : Nat, y < n → y ≠ 0 → p ∈ pr y → pl p < pl y → d y = (b : Int) → Anc d b p
  f : ∀ y a b : Nat, y < n → y ≠ 0 → d y = (b : Int) → (∀ p ∈ pr y, Anc d a p) → Anc d a b
theorem Fst.full (h : Fst n pl pr sc d n) (g : G n pl pr sc) : Full n pl pr sc d :=
  ⟨h.inv, fun y hy => h.done y hy (g.lt y hy), fun y p b hy h0 hp hl hd => h.e y p b hy h0 (g.lt y hy) hp hl hd, fun y a b hy h0 hd hp => h.f y a b hy h0 (g.lt y hy) hd fun p q _ => hp p q⟩
theorem Fst.start (g : G n pl pr sc) (hd0 : d 0 = 0) (hd : ∀ y, y < n → y ≠ 0 → d y < 0) : Fst n pl pr sc d 1 := by
  have hz : ∀ y, y < n → pl y < 1 → y = 0 := fun y hy hl => g.inj y 0 hy g.pos (by rw [g.zero]; omega)
  have hz2 : ∀ y, y < n → 0 ≤ d y → y = 0 := fun y hy h => Classical.byContradiction fun e => by have := hd y hy e; omega
  refine ⟨⟨⟨hd0, fun b hb h0 h => absurd (hz2 b hb h) h0⟩, fun y hy h a ha => ?_, fun y b hy h0 h => ?_⟩, Nat.le_refl _, fun y hy hl => by rw [hz y hy hl, hd0]; omega, fun y hy hl => hd y hy fun e => by subst e; rw [g.zero] at hl; omega, fun y p b hy h0 hl => absurd (hz y hy hl) h0, fun y a b hy h0 hl => absurd (hz y hy hl) h0⟩
  · have e := hz2 y hy h
    subst e
    by_cases ha0 : a = 0
    · subst ha0; exact .refl _
    · exact absurd (Rch.root (fun e => ha0 (by omega))) ha
  · have := hd y hy h0; omega
theorem Fst.step (h : Fst n pl pr sc d i) (g : G n pl pr sc) (hx : x < n) (hi : pl x = i) (hN : Nx d (pr x) c) : Fst n pl pr sc (upd d x c) (i + 1) := by
  have h0 : x ≠ 0 := fun e => by subst e; have := h.pos; rw [g.zero] at hi; omega
  have hlow : ∀ y, y < n → pl y < pl x → 0 ≤ d y := fun y hy hl => h.done y hy (by omega)
  have hin := nx_inv g h.inv hx h0 hN hlow
  obtain ⟨hc, hcl, hdc, _⟩ := nx_low g h.inv hx h0 hN hlow
  have hup : ∀ {y z : Nat}, z < n → pl z < pl x → (Anc (upd d x c) y z ↔ Anc d y z) := fun hz hl => nx_upd h.inv hz (hlow _ hz hl) hl
  refine ⟨hin, by omega, fun y hy hl => ?_, fun y hy hl => ?_, fun y p b hy hy0 hl hp hpl hd => ?_, fun y a b hy hy0 hl hd hp => ?_⟩
  · by_cases e : y = x
    · subst e; rw [upd_at]; omega
    · rw [upd_ne e]
      exact h.done y hy (by have : pl y ≠ pl x := fun e2 => e (g.inj y x hy hx e2); omega)
  · rw [upd_ne (fun e => by subst e; omega)]; exact h.not y hy (by omega)
  · have hpn := g.prlt _ _ hp
    by_cases e : y = x
    · subst e
      rw [upd_at] at hd
      have : c = b := Int.ofNat.inj hd
      subst this
      exact (hup hpn hpl).2 ((hN.anc c).1 (.refl _) p hp (hlow p hpn hpl))
    · rw [upd_ne e] at hd
      have hyl : pl y < pl x := by have : pl y ≠ pl x := fun e2 => e (g.inj y x hy hx e2); omega
      exact (hup hpn (by omega)).2 (h.e y p b hy hy0 (by omega) hp hpl hd)
  · by_cases e : y = x
    · subst e
      rw [upd_at] at hd
      have : c = b := Int.ofNat.inj hd
      subst this
      refine (hup hc hcl).2 ((hN.anc a).2 fun p hpp hdp => ?_)
      have hpn := g.prlt _ _ hpp
      have hpl : pl p < pl y := Nat.lt_of_not_le fun hle => by have := h.not p hpn (by omega); omega
      exact (hup hpn hpl).1 (hp p hpp hpl)
    · rw [upd_ne e] at hd
      have hyl : pl y < pl x := by have : pl y ≠ pl x := fun e2 => e (g.inj y x hy hx e2); omega
      obtain ⟨b', q1, q2, q3, q4⟩ := h.inv.wf.low y hy hy0 (h.done y hy (by omega))
      rw [q1] at hd
      have : b' = b := Int.ofNat.inj hd
      subst this
      exact (hup q2 (by omega)).2 (h.f y a b' hy hy0 (by omega) q1 fun p hpp hpl => (hup (g.prlt _ _ hpp) (by omega)).1 (hp p hpp hpl))
end Go.Abs.Gra

/- Plain: the later rounds of the making of the idoms; what stands when nothing turns. No condition. -/
namespace Go.Abs.Gra
variable {n : Nat} {pl : Nat → Nat} {pr sc : Nat → List Nat} {T d : Nat → Int} {x c i : Nat} {ch : Bool}

def rk (pl : Nat → Nat) (d : Nat → Int) : Nat → Nat
  | 0 => 0
  | k + 1 => rk pl d k + pl (d k).toNat
theorem rk_far {d : Nat → Int} {v : Int} : ∀ {k : Nat}, k ≤ x → rk pl (upd d x v) k = rk pl d k
  | 0, _ => rfl
  | k + 1, h => by unfold rk; rw [rk_far (by omega), upd_ne (by omega)]
theorem rk_upd {d : Nat → Int} {v : Int} : ∀ {k : Nat}, x < k → rk pl (upd d x v) k + pl (d x).toNat = rk pl d k + pl v.toNat
  | 0, h => by omega
  | k + 1, h => by
    unfold rk
    by_cases e : x = k
    · subst e; rw [rk_far (Nat.le_refl _), upd_at]; omega
    · have := rk_upd (d := d) (v := v) (k := k) (show x < k by omega)
      rw [upd_ne (fun h => e h.symm)]; omega

/-- A later round, all of rank below i done; T: as it began; ch: something has turned. -/
structure Lat (n : Nat) (pl : Nat → Nat) (pr sc : Nat → List Nat) (T d : Nat → Int) (i : Nat) (ch : Bool) : Prop where
  inv : Inv n pl sc d
  t : Full n pl pr sc T
  done : ∀ y, y < n → 0 ≤ d y
  pos : 1 ≤ i
  same : ∀ y, y < n → i ≤ pl y → d y = T y
  shr : ∀ y z, z < n → Anc d y z → Anc T y z
  q : ∀ p z a, p < n → Anc T z p → Anc d a p → pl a ≤ pl z → Anc d a z
  e : ∀ y p b : Nat, y < n → y ≠ 0 → pl y < i → p ∈ pr y → pl p < pl y → d y = (b : Int) → Anc d b p
  f : ∀ y a b : Nat, y < n → y ≠ 0 → pl y < i → d y = (b : Int) → (∀ p ∈ pr y, Anc d a p) → Anc d a b
  le : rk pl d n ≤ rk pl T n
  lt : ch = true → rk pl d n < rk pl T n
  fix : ch = false → ∀ y p b : Nat, y < n → y ≠ 0 → pl y < i → p ∈ pr y → d y = (b : Int) → Anc d b p
theorem Lat.start (h : Full n pl pr sc T) (g : G n pl pr sc) : Lat n pl pr sc T T 1 false := by
  have hz : ∀ y, y < n → pl y < 1 → y = 0 := fun y hy hl => g.inj y 0 hy g.pos (by rw [g.zero]; omega)
  exact ⟨h.inv, h, h.done, Nat.le_refl _, fun _ _ _ => rfl, fun _ _ _ h => h, fun p z a hp hz ha hl => h.inv.wf.tot ha hz hp (h.done p hp) hl, fun y p b hy h0 hl => absurd (hz y hy hl) h0, fun y a b hy h0 hl => absurd (hz y hy hl) h0, Nat.le_refl _, (fun h => by cases h), fun _ y p b hy h0 hl => absurd (hz y hy hl) h0⟩
theorem Lat.step (h : Lat n pl pr sc T d i ch) (g : G n pl pr sc) (hx : x < n) (hi : pl x = i) (hN : Nx d (pr x) c) : Lat n pl pr sc T (upd d x c) (i + 1) (ch || decide (d x ≠ (c : Int))) := by
  have h0 : x ≠ 0 := fun e => by subst e; have := h.pos; rw [g.zero] at hi; omega
  have hlow : ∀ y, y < n → pl y < pl x → 0 ≤ d y := fun y hy _ => h.done y hy
  have hin := nx_inv g h.inv hx h0 hN hlow
  obtain ⟨hc, hcl, hdc, p0, hp0, hpl0, hdp0, hcp0⟩ := nx_low g h.inv hx h0 hN hlow
  have hp0n := g.prlt _ _ hp0
  have hup : ∀ {y z : Nat}, z < n → pl z < pl x → (Anc (upd d x c) y z ↔ Anc d y z) := fun hz hl => nx_upd h.inv hz (h.done _ hz) hl
  have hdone : ∀ y, y < n → 0 ≤ upd d x c y := fun y hy => by
    by_cases e : y = x
    · subst e; rw [upd_at]; omega
    · rw [upd_ne e]; exact h.done y hy
  obtain ⟨z, hz, hzn, hzl, _⟩ := h.inv.wf.low x hx h0 (h.done x hx)
  have hTz : T x = (z : Int) := by rw [← h.same x hx (by omega)]; exact hz
  -- the new one is above the one of before
  have hcz : Anc d c z := by
    have h1 : Anc T c z := h.t.f x c z hx h0 hTz fun p hp => h.shr c p (g.prlt _ _ hp) ((hN.anc c).1 (.refl _) p hp (h.done p (g.prlt _ _ hp)))
    exact h.q p0 z c hp0n (h.t.e x p0 z hx h0 hp0 hpl0 hTz) hcp0 (h.t.inv.wf.le h1 hzn (h.t.done z hzn))
  have shr' : ∀ y w, w < n → Anc (upd d x c) y w → Anc d y w := by
    intro y w hw ha
    induction ha with
    | refl => exact .refl _
    | @up b c' h1 h2 h3 ih =>
      obtain ⟨c2, e2, q3, _, _⟩ := hin.wf.low b hw h1 (hdone b hw)
      rw [h2] at e2
      have : c' = c2 := Int.ofNat.inj e2
      subst this
      have ih := ih q3
      by_cases e : b = x
      · subst e
        rw [upd_at] at h2
        have : c = c' := Int.ofNat.inj h2
        subst this
        exact .up h1 hz (ih.trans hcz)
      · rw [upd_ne e] at h2; exact .up h1 h2 ih
  have hrk := rk_upd (pl := pl) (d := d) (v := (c : Int)) hx
  rw [hz] at hrk
  simp only [Int.toNat_natCast] at hrk
  have hcz2 := (h.inv.wf.anc hcz hzn (h.done z hzn)).2.2
  refine ⟨hin, h.t, hdone, by omega, fun y hy hl => by rw [upd_ne (fun e => by subst e; omega)]; exact h.same y hy (by omega), fun y w hw ha => h.shr y w hw (shr' y w hw ha), fun p z' a hp hzp hap hl => ?_, fun y p b hy hy0 hl hp hpl hd => ?_, fun y a b hy hy0 hl hd hp => ?_, ?_, fun hch => ?_, fun hch y p b hy hy0 hl hp hd => ?_⟩
  · have hz'n := (h.t.inv.wf.anc hzp hp (h.t.done p hp)).1
    have haz := h.q p z' a hp hzp (shr' a p hp hap) hl
    by_cases hxz : Anc d x z'
    · by_cases hax : pl x ≤ pl a
      · exact h.inv.wf.keep hz'n (h.done _ hz'n) haz hax hxz
      · have hTp : Anc T x p := (h.shr x z' hz'n hxz).trans hzp
        have back : ∀ w, w < n → Anc T x w → Anc d x w := by
          intro w hw ha
          induction ha with
          | refl => exact .refl _
          | @up b c' h1 h2 h3 ih =>
            obtain ⟨c2, e2, q3, _, _⟩ := h.t.inv.wf.low b hw h1 (h.t.done b hw)
            have e3 := e2
            rw [h2] at e2
            have : c' = c2 := Int.ofNat.inj e2
            subst this
            have := h.t.inv.wf.le (.up h1 h2 h3) hw (h.t.done b hw)
            exact .up h1 (by rw [h.same b hw (by omega)]; exact h2) (ih q3)
        have hdp := back p hp hTp
        have h1 := h.inv.wf.keep (v := (c : Int)) hp (h.done p hp) hdp (Nat.le_refl _) hdp
        have h2 := hin.wf.tot hap h1 hp (hdone p hp) (by omega)
        exact h2.trans (h.inv.wf.keep hz'n (h.done _ hz'n) hxz (Nat.le_refl _) hxz)
    · exact (anc_upd hxz).2 haz
  · have hpn := g.prlt _ _ hp
    by_cases e : y = x
    · subst e
      rw [upd_at] at hd
      have : c = b := Int.ofNat.inj hd
      subst this
      exact (hup hpn hpl).2 ((hN.anc c).1 (.refl _) p hp (h.done p hpn))
    · rw [upd_ne e] at hd
      have hyl : pl y < pl x := by have : pl y ≠ pl x := fun e2 => e (g.inj y x hy hx e2); omega
      exact (hup hpn (by omega)).2 (h.e y p b hy hy0 (by omega) hp hpl hd)
  · by_cases e : y = x
    · subst e
      rw [upd_at] at hd
      have : c = b := Int.ofNat.inj hd
      subst this
      exact (hup hc hcl).2 ((hN.anc a).2 fun p hpp hdp => shr' a p (g.prlt _ _ hpp) (hp p hpp))
    · rw [upd_ne e] at hd
      have hyl : pl y < pl x := by have : pl y ≠ pl x := fun e2 => e (g.inj y x hy hx e2); omega
      obtain ⟨b', q1, q2, q3, q4⟩ := h.inv.wf.low y hy hy0 (h.done y hy)
      rw [q1] at hd
      have : b' = b := Int.ofNat.inj hd
      subst this
      exact (hup q2 (by omega)).2 (h.f y a b' hy hy0 (by omega) q1 fun p hpp => shr' a p (g.prlt _ _ hpp) (hp p hpp))
  · have := h.le
    rcases hcz2 with rfl | hcz2 <;> omega
  · have := h.le
    rw [Bool.or_eq_true, decide_eq_true_eq, hz] at hch
    rcases hch with hch | hch
    · have := h.lt hch
      rcases hcz2 with rfl | hcz2 <;> omega
    · rcases hcz2 with rfl | hcz2
      · exact absurd rfl hch
      · omega
  · rw [Bool.or_eq_false_iff, decide_eq_false_iff_not, Classical.not_not] at hch
    obtain ⟨hch, hdx⟩ := hch
    have hsame : upd d x c = d := by
      funext k
      by_cases e : k = x
      · subst e; rw [upd_at, hdx]
      · rw [upd_ne e]
    rw [hsame] at hd ⊢
    by_cases e : y = x
    · subst e
      rw [hdx] at hd
      have : c = b := Int.ofNat.inj hd
      subst this
      exact (hN.anc c).1 (.refl _) p hp (h.done p (g.prlt _ _ hp))
    · have hyl : pl y < pl x := by have : pl y ≠ pl x := fun e2 => e (g.inj y x hy hx e2); omega
      exact h.fix hch y p b hy hy0 (by omega) hp hd
theorem Lat.full (h : Lat n pl pr sc T d n ch) (g : G n pl pr sc) : Full n pl pr sc d :=
  ⟨h.inv, h.done, fun y p b hy h0 hp hl hd => h.e y p b hy h0 (g.lt y hy) hp hl hd, fun y a b hy h0 hd hp => h.f y a b hy h0 (g.lt y hy) hd hp⟩

/-- Nothing turns any more. -/
structure Fin_ (n : Nat) (pl : Nat → Nat) (pr sc : Nat → List Nat) (d : Nat → Int) : Prop where
  inv : Inv n pl sc d
  done : ∀ y, y < n → 0 ≤ d y
  fix : ∀ y p b : Nat, y < n → y ≠ 0 → p ∈ pr y → d y = (b : Int) → Anc d b p
theorem Lat.fin (h : Lat n pl pr sc T d n false) (g : G n pl pr sc) : Fin_ n pl pr sc d := ⟨h.inv, h.done, fun y p b hy h0 hp hd => h.fix rfl y p b hy h0 (g.lt y hy) hp hd⟩
theorem Fst.fin (h : Fst n pl pr sc d n) (g : G n pl pr sc) (h1 : n ≤ 1) : Fin_ n pl pr sc d := ⟨h.inv, fun y hy => h.done y hy (g.lt y hy), fun y p b hy h0 => by omega⟩
/-- The idoms' chain is who dominates. -/
theorem Fin_.dom (h : Fin_ n pl pr sc d) (g : G n pl pr sc) {a y : Nat} (hy : y < n) : Anc d a y ↔ ¬ Rch sc a y := by
  constructor
  · intro ha hr
    have key : ∀ y, Rch sc a y → y < n → ¬ Anc d a y := by
      intro y hr
      induction hr with
      | root h0 => exact fun _ ha => h0 (by have := ha.zero; omega)
      | @step p y _ hpy hya ih =>
        intro hy ha
        rename_i hrp
        have hpn := g.rlt hrp
        rcases ha.inv with rfl | ⟨b, q1, q2, q3⟩
        · exact hya rfl
        · exact ih hpn (q3.trans (h.fix y p b hy q1 ((g.edge y p hy).2 ⟨hpn, hpy⟩) q2))
    exact key y hr hy ha
  · exact h.inv.td y hy (h.done y hy) a
end Go.Abs.Gra

/- Plain: blocks gone through in depth, and back. No condition. -/
namespace Go.Abs.Gra

def setB (m : Nat → Bool) (b : Nat) : Nat → Bool := fun i => m i || decide (i = b)
/-- Blocks seen, and those gone through, each behind all that it leads to. -/
def dfs (sc : Nat → List Nat) : Nat → (Nat → Bool) → List Nat → Nat → (Nat → Bool) × List Nat
  | 0, m, P, _ => (m, P)
  | k + 1, m, P, b =>
    let st := (sc b).foldl (fun (st : (Nat → Bool) × List Nat) t => if st.1 t = true then st else dfs sc k st.1 st.2 t) (setB m b, P)
    (st.1, st.2 ++ [b])
def dfsF (sc : Nat → List Nat) (k : Nat) (l : List Nat) (m : Nat → Bool) (P : List Nat) : (Nat → Bool) × List Nat :=
  l.foldl (fun (st : (Nat → Bool) × List Nat) t => if st.1 t = true then st else dfs sc k st.1 st.2 t) (m, P)
theorem dfs_succ {sc : Nat → List Nat} {k : Nat} {m : Nat → Bool} {P : List Nat} {b : Nat} : dfs sc (k + 1) m P b = ((dfsF sc k (sc b) (setB m b) P).1, (dfsF sc k (sc b) (setB m b) P).2 ++ [b]) := rfl
theorem dfsF_nil {sc : Nat → List Nat} {k : Nat} {m : Nat → Bool} {P : List Nat} : dfsF sc k [] m P = (m, P) := rfl
theorem dfsF_snoc {sc : Nat → List Nat} {k : Nat} {l : List Nat} {t : Nat} {m : Nat → Bool} {P : List Nat} :
    dfsF sc k (l ++ [t]) m P = if (dfsF sc k l m P).1 t = true then dfsF sc k l m P else dfs sc k (dfsF sc k l m P).1 (dfsF sc k l m P).2 t := by
  unfold dfsF; rw [List.foldl_append]; rfl

/-- How many are not yet seen. -/
def left (m : Nat → Bool) : Nat → Nat
  | 0 => 0
  | k + 1 => left m k + (if m k = true then 0 else 1)
theorem left_mono {m m' : Nat → Bool} (h : ∀ i, m i = true → m' i = true) : ∀ n, left m' n ≤ left m n
  | 0 => Nat.le_refl _
  | n + 1 => by
    unfold left
    have := left_mono h n
    by_cases e : m n = true
    · rw [if_pos e, if_pos (h n e)]; omega
    · rw [if_neg e]; split <;> omega
theorem left_set {m : Nat → Bool} {b : Nat} (hb : m b = false) : ∀ {n : Nat}, b < n → left (setB m b) n + 1 = left m n
  | 0, h => by omega
  | n + 1, h => by
    unfold left
    by_cases e : b = n
    · subst e
      have h1 : ∀ k, k ≤ b → left (setB m b) k = left m k := by
        intro k
        induction k with
        | zero => intro _; rfl
        | succ k ih =>
          intro hk
          unfold left
          rw [ih (by omega)]
          have : setB m b k = m k := by unfold setB; rw [decide_eq_false (by omega)]; simp
          rw [this]
      rw [h1 b (Nat.le_refl _), hb]
      have : setB m b b = true := by unfold setB; simp
      rw [this]; simp
    · have := left_set hb (n := n) (by omega)
      have h2 : setB m b n = m n := by unfold setB; rw [decide_eq_false (fun h => e h.symm)]; simp
      rw [h2]; omega
theorem left_pos {m : Nat → Bool} {b : Nat} (hb : m b = false) {n : Nat} (h : b < n) : 0 < left m n := by
  have := left_set hb h; omega

/-- Each has one behind it (or b) that leads to it. -/
def Beh (sc : Nat → List Nat) (b : Nat) : List Nat → Prop
  | [] => True
  | v :: r => (∃ p, (p ∈ r ∨ p = b) ∧ v ∈ sc p) ∧ Beh sc b r
theorem Beh.app {sc : Nat → List Nat} {b : Nat} {R : List Nat} (hR : Beh sc b R) : ∀ {L : List Nat}, Beh sc b L → Beh sc b (L ++ R)
  | [], _ => hR
  | v :: r, ⟨⟨p, hp, hv⟩, h⟩ => ⟨⟨p, hp.elim (fun h => .inl (List.mem_append_left _ h)) .inr, hv⟩, hR.app h⟩
theorem Beh.seg {sc : Nat → List Nat} {b t : Nat} (ht : t ∈ sc b) : ∀ {L : List Nat}, Beh sc t L → Beh sc b (L ++ [t])
  | [], _ => ⟨⟨b, .inr rfl, ht⟩, trivial⟩
  | v :: r, ⟨⟨p, hp, hv⟩, h⟩ => ⟨⟨p, hp.elim (fun h => .inl (List.mem_append_left _ h)) (fun e => .inl (by rw [e]; simp)), hv⟩, Beh.seg ht h⟩
/-- What going through from b does: the new ones, each but b behind one that leads to it .. -/
structure Vis (sc : Nat → List Nat) (n : Nat) (m : Nat → Bool) (P : List Nat) (b : Nat) (m' : Nat → Bool) (L : List Nat) : Prop where
  nodup : L.Nodup
  new : ∀ v ∈ L, v < n ∧ m v = false
  seen : ∀ v, m' v = (m v || decide (v ∈ L))
  behind : Beh sc b L
  closed : ∀ v ∈ L, ∀ t ∈ sc v, m' t = true
  way : ∀ w : Int, ∀ v ∈ L, (∀ u, u ∈ L → (u : Int) ≠ w) → Rch sc w b → Rch sc w v
theorem dfs_vis {sc : Nat → List Nat} {n : Nat} (hsc : ∀ p b, p < n → b ∈ sc p → b < n) : ∀ (k : Nat) {m : Nat → Bool} {P : List Nat} {b : Nat}, b < n → m b = false → left m n ≤ k →
    ∃ L, dfs sc k m P b = ((dfs sc k m P b).1, P ++ L ++ [b]) ∧ Vis sc n (setB m b) P b (dfs sc k m P b).1 L ∧ ∀ t ∈ sc b, (dfs sc k m P b).1 t = true
  | 0, m, P, b, hb, hm, hk => by have := left_pos hm hb; omega
  | k + 1, m, P, b, hb, hm, hk => by
    have hk1 : left (setB m b) n ≤ k := by have := left_set hm hb; omega
    have key : ∀ l, (∀ t ∈ l, t ∈ sc b) → ∃ L, dfsF sc k l (setB m b) P = ((dfsF sc k l (setB m b) P).1, P ++ L) ∧ Vis sc n (setB m b) P b (dfsF sc k l (setB m b) P).1 L ∧ ∀ t ∈ l, (dfsF sc k l (setB m b) P).1 t = true := by
      intro l
      have hrev : ∀ r : List Nat, (∀ t ∈ r.reverse, t ∈ sc b) → ∃ L, dfsF sc k r.reverse (setB m b) P = ((dfsF sc k r.reverse (setB m b) P).1, P ++ L) ∧ Vis sc n (setB m b) P b (dfsF sc k r.reverse (setB m b) P).1 L ∧ ∀ t ∈ r.reverse, (dfsF sc k r.reverse (setB m b) P).1 t = true := by
        intro r
        induction r with
        | nil =>
          intro _
          refine ⟨[], by rw [List.reverse_nil, dfsF_nil]; simp, ⟨List.nodup_nil, fun v hv => (by cases hv), fun v => by simp [dfsF_nil], trivial, fun v hv => (by cases hv), fun w v hv => (by cases hv)⟩, fun t ht => by simp at ht⟩
        | cons t r ih =>
          intro hs
          rw [List.reverse_cons] at hs ⊢
          obtain ⟨L, h1, h2, h3⟩ := ih fun u hu => hs u (List.mem_append_left _ hu)
          have htb : t ∈ sc b := hs t (by simp)
          rw [dfsF_snoc]
          generalize hD : dfsF sc k r.reverse (setB m b) P = D at h1 h2 h3
          split
          · rename_i ht
            exact ⟨L, h1, h2, fun u hu => by
              rcases List.mem_append.1 hu with hu | hu
              · exact h3 u hu
              · simp at hu; subst hu; exact ht⟩
          · rename_i ht
            have ht : D.1 t = false := by simpa using ht
            have htn := hsc b t hb htb
            have hle : left D.1 n ≤ k := Nat.le_trans (left_mono (fun i hi => by rw [h2.seen, hi]; rfl) n) hk1
            obtain ⟨L2, q1, q2, q3⟩ := dfs_vis hsc k (m := D.1) (P := D.2) htn ht hle
            have hD2 : D.2 = P ++ L := by rw [h1]
            have hs2 : ∀ v, (dfs sc k D.1 D.2 t).1 v = (setB m b v || decide (v ∈ L ++ (L2 ++ [t]))) := fun v => by
              rw [q2.seen]; unfold setB; rw [h2.seen]
              rw [Bool.eq_iff_iff]
              simp only [Bool.or_eq_true, decide_eq_true_eq, List.mem_append, List.mem_singleton, setB]
              constructor
              · rintro ((h | h) | h)
                · exact h.elim (fun h => .inl h) (fun h => .inr (.inl h))
                · exact .inr (.inr (.inr h))
                · exact .inr (.inr (.inl h))
              · rintro (h | h | h | h)
                · exact .inl (.inl (.inl h))
                · exact .inl (.inl (.inr h))
                · exact .inr h
                · exact .inl (.inr h)
            have hnot : ∀ v, v ∈ L → ¬ v ∈ L2 ++ [t] := fun v hv hv2 => by
              have hdv : D.1 v = true := by rw [h2.seen]; simp [hv]
              rcases List.mem_append.1 hv2 with h | h
              · have := (q2.new v h).2
                unfold setB at this; rw [hdv] at this; simp at this
              · simp at h; subst h; rw [ht] at hdv; cases hdv
            have hmono : ∀ v, D.1 v = true → (dfs sc k D.1 D.2 t).1 v = true := fun v hv => by rw [q2.seen]; unfold setB; rw [hv]; rfl
            refine ⟨L ++ (L2 ++ [t]), by rw [q1, hD2]; simp, ⟨?_, fun v hv => ?_, hs2, Beh.app (Beh.seg htb q2.behind) h2.behind, fun v hv u hu => ?_, fun w v hv hw hr => ?_⟩, fun u hu => ?_⟩
            · refine List.nodup_append.2 ⟨h2.nodup, List.nodup_append.2 ⟨q2.nodup, by simp, fun a ha c hc e => ?_⟩, fun a ha c hc e => hnot a ha (e ▸ hc)⟩
              simp at hc; subst hc; subst e
              have := (q2.new a ha).2
              unfold setB at this; simp at this
            · rcases List.mem_append.1 hv with hv | hv
              · exact h2.new v hv
              · have hdv : v < n ∧ D.1 v = false := by
                  rcases List.mem_append.1 hv with hv | hv
                  · have := q2.new v hv
                    refine ⟨this.1, ?_⟩
                    have h3 := this.2
                    unfold setB at h3; simp at h3; exact h3.1
                  · simp at hv; subst hv; exact ⟨htn, ht⟩
                refine ⟨hdv.1, ?_⟩
                have := hdv.2
                rw [h2.seen] at this; simp at this; exact this.1
            · rcases List.mem_append.1 hv with hv | hv
              · exact hmono u (h2.closed v hv u hu)
              · rcases List.mem_append.1 hv with hv | hv
                · exact q2.closed v hv u hu
                · simp at hv; subst hv; exact q3 u hu
            · have hrt : (∀ u, u ∈ L2 ++ [t] → (u : Int) ≠ w) → Rch sc w t := fun hw2 => .step hr htb (hw2 t (by simp))
              have hw2 : ∀ u, u ∈ L2 ++ [t] → (u : Int) ≠ w := fun u hu => hw u (List.mem_append_right _ hu)
              rcases List.mem_append.1 hv with hv | hv
              · exact h2.way w v hv (fun u hu => hw u (List.mem_append_left _ hu)) hr
              · rcases List.mem_append.1 hv with hv | hv
                · exact q2.way w v hv (fun u hu => hw2 u (List.mem_append_left _ hu)) (hrt hw2)
                · simp at hv; subst hv; exact hrt hw2
            · rcases List.mem_append.1 hu with hu | hu
              · exact hmono u (h3 u hu)
              · simp at hu; subst hu; rw [hs2]; simp
      have := hrev l.reverse
      rw [List.reverse_reverse] at this
      exact this
    obtain ⟨L, h1, h2, h3⟩ := key (sc b) fun _ h => h
    refine ⟨L, ?_, ?_, ?_⟩
    · rw [dfs_succ, h1]
    · rw [dfs_succ]; exact h2
    · rw [dfs_succ]; exact h3
end Go.Abs.Gra

/- Plain: the order of blocks, their preds, and what they are for the idoms. No condition. -/
namespace Go.Abs.Gra
variable {sc : Nat → List Nat} {n : Nat}

def postF (sc : Nat → List Nat) (n : Nat) : List Nat := (dfs sc n (fun _ => false) [] 0).2
def ordF (sc : Nat → List Nat) (n : Nat) : List Nat := (postF sc n).reverse
/-- Who leads to a block, once for each edge. -/
def preds (sc : Nat → List Nat) (n : Nat) (b : Nat) : List Nat := (List.range n).flatMap fun a => ((sc a).filter (· == b)).map fun _ => a
theorem mem_preds {b p : Nat} : p ∈ preds sc n b ↔ p < n ∧ b ∈ sc p := by
  unfold preds
  simp only [List.mem_flatMap, List.mem_range, List.mem_map, List.mem_filter, beq_iff_eq]
  constructor
  · rintro ⟨a, ha, c, ⟨hc, rfl⟩, rfl⟩; exact ⟨ha, hc⟩
  · rintro ⟨h1, h2⟩; exact ⟨p, h1, b, ⟨h2, rfl⟩, rfl⟩
theorem left_all : ∀ n, left (fun _ => false) n = n
  | 0 => rfl
  | n + 1 => by unfold left; rw [left_all n]; simp
structure PostOk (sc : Nat → List Nat) (n : Nat) (L : List Nat) : Prop where
  eq : postF sc n = L ++ [0]
  nodup : (L ++ [0]).Nodup
  lt : ∀ v ∈ L ++ [0], v < n
  beh : Beh sc 0 L
  rch : ∀ v, v ∈ L ++ [0] ↔ Rch sc (-1) v
theorem post_ok (hn : 0 < n) (hsc : ∀ p b, p < n → b ∈ sc p → b < n) : ∃ L, PostOk sc n L := by
  obtain ⟨L, h1, h2, h3⟩ := dfs_vis hsc n (m := fun _ => false) (P := []) hn rfl (by rw [left_all]; exact Nat.le_refl _)
  have hseen : ∀ v, (dfs sc n (fun _ => false) [] 0).1 v = true ↔ v ∈ L ++ [0] := fun v => by
    rw [h2.seen]; unfold setB; simp [or_comm]
  refine ⟨L, by unfold postF; rw [h1]; simp, List.nodup_append.2 ⟨h2.nodup, by simp, fun a ha c hc e => ?_⟩, fun v hv => ?_, h2.behind, fun v => ⟨fun hv => ?_, fun hv => ?_⟩⟩
  · simp at hc; subst hc; subst e
    have := (h2.new _ ha).2
    unfold setB at this; simp at this
  · rcases List.mem_append.1 hv with hv | hv
    · exact (h2.new v hv).1
    · simp at hv; subst hv; exact hn
  · have h0 : Rch sc (-1) 0 := .root (by decide)
    rcases List.mem_append.1 hv with hv | hv
    · exact h2.way (-1) v hv (fun u _ => by omega) h0
    · simp at hv; subst hv; exact h0
  · induction hv with
    | root _ => simp
    | @step a b _ hb _ ih =>
      rw [← hseen]
      rcases List.mem_append.1 ih with ih | ih
      · exact h2.closed a ih b hb
      · simp at ih; subst ih; exact h3 b hb
theorem nodup_len : ∀ (n : Nat) (P : List Nat), P.Nodup → (∀ v ∈ P, v < n) → P.length ≤ n ∧ (P.length = n → ∀ i, i < n → i ∈ P)
  | 0, P, _, h => by
    have : P = [] := List.eq_nil_iff_forall_not_mem.2 fun v hv => by have := h v hv; omega
    subst this; exact ⟨Nat.le_refl _, fun _ i hi => absurd hi (by omega)⟩
  | n + 1, P, hn, h => by
    have ih := nodup_len n (P.erase n) (hn.erase _) (fun v hv => by
      have h1 := h v (List.mem_of_mem_erase hv)
      have h2 : v ≠ n := fun e => by subst e; exact (List.Nodup.not_mem_erase hn) hv
      omega)
    by_cases hm : n ∈ P
    · have hl := List.length_erase_of_mem hm
      have hp : 0 < P.length := List.length_pos_of_mem hm
      refine ⟨by omega, fun e i hi => ?_⟩
      by_cases e2 : i = n
      · subst e2; exact hm
      · exact List.mem_of_mem_erase (ih.2 (by omega) i (by omega))
    · rw [List.erase_of_not_mem hm] at ih
      exact ⟨by omega, fun e => by omega⟩
theorem len_ge {P : List Nat} (h : ∀ i, i < n → i ∈ P) : n ≤ P.length := by
  have hs : (List.range n).length ≤ P.length := by
    apply List.Nodup.length_le_of_subset List.nodup_range
    intro v hv; exact h v (List.mem_range.1 hv)
  simpa using hs
/-- All are come to: just then the order has all. -/
theorem ord_all (hn : 0 < n) (hsc : ∀ p b, p < n → b ∈ sc p → b < n) : (ordF sc n).length = n ↔ ∀ b, b < n → Rch sc (-1) b := by
  obtain ⟨L, h⟩ := post_ok hn hsc
  unfold ordF
  rw [List.length_reverse, h.eq]
  obtain ⟨h1, h2⟩ := nodup_len n _ h.nodup h.lt
  constructor
  · intro e b hb; exact (h.rch b).1 (h2 e b hb)
  · intro hr; exact Nat.le_antisymm h1 (len_ge fun i hi => (h.rch i).2 (hr i hi))
theorem ord_le (hn : 0 < n) (hsc : ∀ p b, p < n → b ∈ sc p → b < n) : (ordF sc n).length ≤ n := by
  obtain ⟨L, h⟩ := post_ok hn hsc
  unfold ordF
  rw [List.length_reverse, h.eq]
  exact (nodup_len n _ h.nodup h.lt).1
def rank (sc : Nat → List Nat) (n : Nat) (b : Nat) : Nat := (ordF sc n).idxOf b
/-- What the walk needs of the order. -/
structure OrdOk (sc : Nat → List Nat) (n : Nat) : Prop where
  g : G n (rank sc n) (preds sc n) sc
  len : (ordF sc n).length = n
  at_ : ∀ i, i < n → (ordF sc n).getD i 0 < n ∧ rank sc n ((ordF sc n).getD i 0) = i
  zero : (ordF sc n).getD 0 0 = 0
theorem ord_ok (hn : 0 < n) (hsc : ∀ p b, p < n → b ∈ sc p → b < n) (h0 : ∀ p, p < n → ¬ 0 ∈ sc p) (hr : ∀ b, b < n → Rch sc (-1) b) : OrdOk sc n := by
  have hlen := (ord_all hn hsc).2 hr
  obtain ⟨L, h⟩ := post_ok hn hsc
  have ho : ordF sc n = 0 :: L.reverse := by unfold ordF; rw [h.eq]; simp
  have hnd : (ordF sc n).Nodup := by unfold ordF; rw [h.eq]; exact List.pairwise_reverse.2 (h.nodup.imp fun h => h.symm)
  have hmem : ∀ b, b < n → b ∈ ordF sc n := fun b hb => by unfold ordF; rw [List.mem_reverse, h.eq]; exact (h.rch b).2 (hr b hb)
  have hlt : ∀ b, b < n → (ordF sc n).idxOf b < (ordF sc n).length := fun b hb => List.idxOf_lt_length_iff.2 (hmem b hb)
  have hget : ∀ b (hb : b < n), (ordF sc n)[(ordF sc n).idxOf b]'(hlt b hb) = b := fun b hb => List.getElem_idxOf (hlt b hb)
  have hidx : ∀ i (hi : i < (ordF sc n).length), (ordF sc n).idxOf (ordF sc n)[i] = i := fun i hi => by
    exact List.Nodup.idxOf_getElem hnd i hi
  refine ⟨⟨fun a b ha hb e => ?_, ?_, hn, fun a ha => ?_, fun b p hp => (mem_preds.1 hp).1, fun b p _ => mem_preds, fun b hb hb0 => ?_, h0, hsc⟩, hlen, fun i hi => ?_, by rw [ho]; rfl⟩
  · unfold rank at e
    have h1 := hget a ha
    have h2 := hget b hb
    rw [← h1, ← h2]; simp only [e]
  · unfold rank; rw [ho]; simp
  · unfold rank; have := hlt a ha; omega
  · have hbL : b ∈ L := by
      have := (h.rch b).2 (hr b hb)
      rcases List.mem_append.1 this with h | h
      · exact h
      · simp at h; exact absurd h hb0
    have key : ∀ l, Beh sc 0 l → b ∈ l → ∃ l1 l2 p, l = l1 ++ b :: l2 ∧ (p ∈ l2 ∨ p = 0) ∧ b ∈ sc p := by
      intro l
      induction l with
      | nil => intro _ h; cases h
      | cons v r ih =>
        intro hB hm
        rcases List.mem_cons.1 hm with e | hm
        · subst e; obtain ⟨⟨p, hp, hv⟩, _⟩ := hB; exact ⟨[], r, p, rfl, hp, hv⟩
        · obtain ⟨l1, l2, p, e, hp, hv⟩ := ih hB.2 hm
          exact ⟨v :: l1, l2, p, by rw [e]; rfl, hp, hv⟩
    obtain ⟨l1, l2, p, e, hp, hv⟩ := key L h.beh hbL
    have hpn : p < n := by
      rcases hp with hp | rfl
      · exact h.lt p (by rw [e]; simp [hp])
      · exact hn
    refine ⟨p, mem_preds.2 ⟨hpn, hv⟩, ?_⟩
    have ho2 : ordF sc n = (0 :: l2.reverse) ++ b :: l1.reverse := by rw [ho, e]; simp
    have hpm : p ∈ 0 :: l2.reverse := by
      rcases hp with hp | rfl
      · simp [hp]
      · simp
    have hbn : ¬ b ∈ 0 :: l2.reverse := by
      rw [ho2] at hnd
      have := (List.nodup_append.1 hnd).2.2
      exact fun hb => this b hb b (by simp) rfl
    unfold rank
    rw [ho2, List.idxOf_append, List.idxOf_append, if_pos hpm, if_neg hbn]
    have := List.idxOf_lt_length_iff.2 hpm
    simp only [List.idxOf_cons_self]
    omega
  · have hi' : i < (ordF sc n).length := by omega
    have e : (ordF sc n).getD i 0 = (ordF sc n)[i] := by rw [List.getD_eq_getElem?_getD, List.getElem?_eq_getElem hi']; rfl
    rw [e]
    refine ⟨?_, hidx i hi'⟩
    have : (ordF sc n)[i] ∈ L ++ [0] := by rw [← h.eq, ← List.mem_reverse]; exact List.getElem_mem hi'
    exact h.lt _ this
end Go.Abs.Gra

/- Plain: how long what was gone through gets. No condition. -/
namespace Go.Abs.Gra
variable {sc : Nat → List Nat} {n : Nat}

theorem dfsF_len {k : Nat} (ih : ∀ (m : Nat → Bool) (P : List Nat) (b : Nat), b < n → m b = false → (dfs sc k m P b).2.length + left (dfs sc k m P b).1 n ≤ P.length + left m n ∧ ∀ i, m i = true → (dfs sc k m P b).1 i = true) (m : Nat → Bool) (P : List Nat) :
    ∀ l : List Nat, (∀ t ∈ l, t < n) → (dfsF sc k l m P).2.length + left (dfsF sc k l m P).1 n ≤ P.length + left m n ∧ ∀ i, m i = true → (dfsF sc k l m P).1 i = true := by
  intro l
  have hrev : ∀ r : List Nat, (∀ t ∈ r.reverse, t < n) → (dfsF sc k r.reverse m P).2.length + left (dfsF sc k r.reverse m P).1 n ≤ P.length + left m n ∧ ∀ i, m i = true → (dfsF sc k r.reverse m P).1 i = true := by
    intro r
    induction r with
    | nil => intro _; exact ⟨Nat.le_refl _, fun _ h => h⟩
    | cons t r h =>
      intro ht
      rw [List.reverse_cons] at ht ⊢
      obtain ⟨h1, h2⟩ := h fun u hu => ht u (List.mem_append_left _ hu)
      rw [dfsF_snoc]
      split
      · exact ⟨h1, h2⟩
      · rename_i hm
        obtain ⟨h3, h4⟩ := ih (dfsF sc k r.reverse m P).1 (dfsF sc k r.reverse m P).2 t (ht t (by simp)) (by simpa using hm)
        exact ⟨by omega, fun i hi => h4 i (h2 i hi)⟩
  have := hrev l.reverse
  rw [List.reverse_reverse] at this
  exact this
theorem dfs_len (hsc : ∀ p b, p < n → b ∈ sc p → b < n) : ∀ (k : Nat) (m : Nat → Bool) (P : List Nat) (b : Nat), b < n → m b = false → (dfs sc k m P b).2.length + left (dfs sc k m P b).1 n ≤ P.length + left m n ∧ ∀ i, m i = true → (dfs sc k m P b).1 i = true
  | 0, m, P, b, _, _ => ⟨Nat.le_refl _, fun _ h => h⟩
  | k + 1, m, P, b, hb, hm => by
    obtain ⟨h1, h2⟩ := dfsF_len (dfs_len hsc k) (setB m b) P (sc b) fun t ht => hsc b t hb ht
    have := left_set hm hb
    rw [dfs_succ]
    refine ⟨?_, fun i hi => h2 i (by unfold setB; rw [hi]; rfl)⟩
    simp only [List.length_append, List.length_singleton]
    omega
theorem dfsF_len' (hsc : ∀ p b, p < n → b ∈ sc p → b < n) (k : Nat) (m : Nat → Bool) (P : List Nat) {l : List Nat} (hl : ∀ t ∈ l, t < n) : (dfsF sc k l m P).2.length + left (dfsF sc k l m P).1 n ≤ P.length + left m n ∧ ∀ i, m i = true → (dfsF sc k l m P).1 i = true :=
  dfsF_len (dfs_len hsc k) m P l hl
end Go.Abs.Gra

/- Plain: what is next ahead of two, of many; there are idoms, and one alone. No condition. -/
namespace Go.Abs.Gra
variable {n : Nat} {pl : Nat → Nat} {pr sc : Nat → List Nat} {d T : Nat → Int}

theorem WF.anti (h : WF n pl d) {a b : Nat} (hb : b < n) (ha : a < n) (hda : 0 ≤ d a) (hdb : 0 ≤ d b) (h1 : Anc d a b) (h2 : Anc d b a) : a = b := by
  rcases (h.anc h1 hb hdb).2.2 with e | e
  · exact e
  · have := h.le h2 ha hda; omega
/-- c: next ahead of both. -/
def Nca (d : Nat → Int) (a b c : Nat) : Prop := ∀ y, Anc d y c ↔ Anc d y a ∧ Anc d y b
theorem Nca.uniq (h : WF n pl d) {a b c c' : Nat} (ha : a < n) (hda : 0 ≤ d a) (h1 : Nca d a b c) (h2 : Nca d a b c') : c = c' := by
  have hc := h.anc ((h1 c).1 (.refl _)).1 ha hda
  have hc' := h.anc ((h2 c').1 (.refl _)).1 ha hda
  exact h.anti hc'.1 hc.1 hc.2.1 hc'.2.1 ((h2 c).2 ((h1 c).1 (.refl _))) ((h1 c').2 ((h2 c').1 (.refl _)))
theorem Nca.refl (a : Nat) : Nca d a a a := fun y => ⟨fun h => ⟨h, h⟩, fun h => h.1⟩
theorem Nca.symm {a b c : Nat} (h : Nca d a b c) : Nca d b a c := fun y => (h y).trans And.comm
/-- A step up from the one of higher rank. -/
theorem WF.stepL (g : G n pl pr sc) (h : WF n pl d) {a b : Nat} (ha : a < n) (hb : b < n) (hda : 0 ≤ d a) (hdb : 0 ≤ d b) (hl : pl b < pl a) :
    ∃ c : Nat, d a = (c : Int) ∧ c < n ∧ pl c < pl a ∧ 0 ≤ d c ∧ ∀ e, Nca d c b e ↔ Nca d a b e := by
  have h0 : a ≠ 0 := fun e => by subst e; rw [g.zero] at hl; omega
  obtain ⟨c, h1, h2, h3, h4⟩ := h.low a ha h0 hda
  have key : ∀ y, (Anc d y c ∧ Anc d y b) ↔ (Anc d y a ∧ Anc d y b) := fun y => by
    constructor
    · rintro ⟨q1, q2⟩; exact ⟨.up h0 h1 q1, q2⟩
    · rintro ⟨q1, q2⟩
      refine ⟨?_, q2⟩
      rcases q1.inv with rfl | ⟨c', _, e, q⟩
      · have := h.le q2 hb hdb; omega
      · rw [h1] at e
        have : c = c' := Int.ofNat.inj e
        subst this; exact q
  exact ⟨c, h1, h2, h3, h4, fun e => ⟨fun he y => (he y).trans (key y), fun he y => (he y).trans (key y).symm⟩⟩
theorem WF.nca (g : G n pl pr sc) (h : WF n pl d) : ∀ (k : Nat) {a b : Nat}, pl a + pl b ≤ k → a < n → b < n → 0 ≤ d a → 0 ≤ d b → ∃ c, c < n ∧ 0 ≤ d c ∧ Nca d a b c
  | k, a, b, hk, ha, hb, hda, hdb => by
    rcases Nat.lt_trichotomy (pl a) (pl b) with hl | hl | hl
    · obtain ⟨c, _, h2, h3, h4, h5⟩ := h.stepL g hb ha hdb hda hl
      match k, hk with
      | 0, hk => omega
      | k + 1, hk =>
        obtain ⟨e, e1, e2, e3⟩ := h.nca g k (a := c) (b := a) (by omega) h2 ha h4 hda
        exact ⟨e, e1, e2, ((h5 e).1 e3).symm⟩
    · have := g.inj a b ha hb hl
      subst this
      exact ⟨a, ha, hda, .refl _⟩
    · obtain ⟨c, _, h2, h3, h4, h5⟩ := h.stepL g ha hb hda hdb hl
      match k, hk with
      | 0, hk => omega
      | k + 1, hk =>
        obtain ⟨e, e1, e2, e3⟩ := h.nca g k (a := c) (b := b) (by omega) h2 hb h4 hdb
        exact ⟨e, e1, e2, (h5 e).1 e3⟩

/-- What a walk over preds has found so far. -/
def NxP (d : Nat → Int) (L : List Nat) (v : Int) : Prop := (v = -1 ∧ ∀ p ∈ L, d p < 0) ∨ ∃ c : Nat, v = (c : Int) ∧ Nx d L c
theorem NxP.nil : NxP d [] (-1) := .inl ⟨rfl, fun p hp => by cases hp⟩
theorem NxP.skip {L : List Nat} {v : Int} {p : Nat} (h : NxP d L v) (hp : d p < 0) : NxP d (L ++ [p]) v := by
  rcases h with ⟨h1, h2⟩ | ⟨c, h1, h2⟩
  · exact .inl ⟨h1, fun q hq => by
      rcases List.mem_append.1 hq with hq | hq
      · exact h2 q hq
      · simp at hq; subst hq; exact hp⟩
  · refine .inr ⟨c, h1, ?_, fun y => ?_⟩
    · obtain ⟨q, q1, q2⟩ := h2.some; exact ⟨q, List.mem_append_left _ q1, q2⟩
    · rw [h2.anc]
      exact ⟨fun h q hq hd => by
        rcases List.mem_append.1 hq with hq | hq
        · exact h q hq hd
        · simp at hq; subst hq; omega, fun h q hq hd => h q (List.mem_append_left _ hq) hd⟩
theorem NxP.first {L : List Nat} {v : Int} {p : Nat} (h : NxP d L v) (hv : v < 0) (hp : 0 ≤ d p) : NxP d (L ++ [p]) (p : Int) := by
  rcases h with ⟨h1, h2⟩ | ⟨c, h1, h2⟩
  · refine .inr ⟨p, rfl, ⟨p, by simp, hp⟩, fun y => ⟨fun h q hq hd => ?_, fun h => h p (by simp) hp⟩⟩
    rcases List.mem_append.1 hq with hq | hq
    · have := h2 q hq; omega
    · simp at hq; subst hq; exact h
  · omega
theorem NxP.meet {L : List Nat} {p c e : Nat} (h : Nx d L c) (hp : 0 ≤ d p) (he : Nca d p c e) : NxP d (L ++ [p]) (e : Int) := by
  refine .inr ⟨e, rfl, ⟨p, by simp, hp⟩, fun y => ?_⟩
  rw [he y, h.anc]
  constructor
  · rintro ⟨h1, h2⟩ q hq hd
    rcases List.mem_append.1 hq with hq | hq
    · exact h2 q hq hd
    · simp at hq; subst hq; exact h1
  · intro h1
    exact ⟨h1 p (by simp) hp, fun q hq hd => h1 q (List.mem_append_left _ hq) hd⟩
theorem Nx.lt (h : WF n pl d) {L : List Nat} (hL : ∀ p ∈ L, p < n) {c : Nat} (hc : Nx d L c) : c < n ∧ 0 ≤ d c := by
  obtain ⟨p, h1, h2⟩ := hc.some
  have := h.anc ((hc.anc c).1 (.refl _) p h1 h2) (hL p h1) h2
  exact ⟨this.1, this.2.1⟩
theorem NxP.all (g : G n pl pr sc) (h : WF n pl d) : ∀ (L : List Nat), (∀ p ∈ L, p < n) → ∃ v, NxP d L v := by
  intro L
  have hrev : ∀ r : List Nat, (∀ p ∈ r.reverse, p < n) → ∃ v, NxP d r.reverse v := by
    intro r
    induction r with
    | nil => intro _; exact ⟨-1, .nil⟩
    | cons p r ih =>
      intro hp
      rw [List.reverse_cons] at hp ⊢
      obtain ⟨v, hv⟩ := ih fun q hq => hp q (List.mem_append_left _ hq)
      have hpn := hp p (by simp)
      by_cases h1 : d p < 0
      · exact ⟨v, hv.skip h1⟩
      · rcases hv with ⟨e1, e2⟩ | ⟨c, e1, e2⟩
        · exact ⟨_, NxP.first (.inl ⟨e1, e2⟩) (by omega) (by omega)⟩
        · obtain ⟨hc, hdc⟩ := e2.lt h fun q hq => hp q (List.mem_append_left _ hq)
          obtain ⟨e, _, _, he⟩ := h.nca g _ (Nat.le_refl _) hpn hc (by omega) hdc
          exact ⟨_, NxP.meet e2 (by omega) he⟩
  have := hrev L.reverse
  rwa [List.reverse_reverse] at this
theorem NxP.get {L : List Nat} {v : Int} (h : NxP d L v) (hs : ∃ p ∈ L, 0 ≤ d p) : ∃ c : Nat, v = (c : Int) ∧ Nx d L c := by
  rcases h with ⟨_, h2⟩ | h
  · obtain ⟨p, h3, h4⟩ := hs; have := h2 p h3; omega
  · exact h
theorem Fst.some (g : G n pl pr sc) {i x : Nat} (h : Fst n pl pr sc d i) (hx : x < n) (hi : pl x = i) : ∃ p ∈ pr x, 0 ≤ d p := by
  have h0 : x ≠ 0 := fun e => by subst e; have := h.pos; rw [g.zero] at hi; omega
  obtain ⟨p, h1, h2⟩ := g.fwd x hx h0
  exact ⟨p, h1, h.done p (g.prlt _ _ h1) (by omega)⟩
theorem Lat.some (g : G n pl pr sc) {i x : Nat} {ch : Bool} (h : Lat n pl pr sc T d i ch) (hx : x < n) (hi : pl x = i) : ∃ p ∈ pr x, 0 ≤ d p := by
  have h0 : x ≠ 0 := fun e => by subst e; have := h.pos; rw [g.zero] at hi; omega
  obtain ⟨p, h1, h2⟩ := g.fwd x hx h0
  exact ⟨p, h1, h.done p (g.prlt _ _ h1)⟩
theorem upd_same {x : Nat} {v : Int} (h : d x = v) : upd d x v = d := by
  funext k
  by_cases e : k = x
  · subst e; rw [upd_at, h]
  · rw [upd_ne e]
theorem rk_le (h : ∀ k, k < n → pl (d k).toNat ≤ n) : ∀ k, k ≤ n → rk pl d k ≤ k * n
  | 0, _ => Nat.zero_le _
  | k + 1, hk => by
    unfold rk
    have := rk_le h k (by omega)
    have := h k (by omega)
    rw [Nat.add_mul, Nat.one_mul]; omega
theorem Full.rk (g : G n pl pr sc) (h : Full n pl pr sc d) : rk pl d n ≤ n * n := by
  refine rk_le (fun k hk => ?_) n (Nat.le_refl _)
  by_cases e : k = 0
  · subst e; rw [h.inv.wf.zero]; show pl 0 ≤ n; rw [g.zero]; omega
  · obtain ⟨c, h1, h2, _, _⟩ := h.inv.wf.low k hk e (h.done k hk)
    rw [h1, Int.toNat_natCast]; exact Nat.le_of_lt (g.lt c h2)

section
variable (g : G n pl pr sc) (ho : ∀ i, i < n → ∃ x, x < n ∧ pl x = i)
include g ho
theorem first_round : ∀ i, 1 ≤ i → i ≤ n → ∃ d, Fst n pl pr sc d i
  | 0, h, _ => by omega
  | 1, _, _ => ⟨fun y => if y = 0 then 0 else -1, Fst.start g rfl fun y _ hy => by show (if y = 0 then (0 : Int) else -1) < 0; rw [if_neg hy]; omega⟩
  | i + 2, _, hi => by
    obtain ⟨d, hd⟩ := first_round (i + 1) (by omega) (by omega)
    obtain ⟨x, hx, hpx⟩ := ho (i + 1) (by omega)
    obtain ⟨v, hv⟩ := NxP.all g hd.inv.wf (pr x) fun p hp => g.prlt _ _ hp
    obtain ⟨c, _, hc⟩ := hv.get (hd.some g hx hpx)
    exact ⟨_, hd.step g hx hpx hc⟩
theorem later_round (hT : Full n pl pr sc T) : ∀ i, 1 ≤ i → i ≤ n → ∃ d ch, Lat n pl pr sc T d i ch
  | 0, h, _ => by omega
  | 1, _, _ => ⟨T, false, Lat.start hT g⟩
  | i + 2, _, hi => by
    obtain ⟨d, ch, hd⟩ := later_round hT (i + 1) (by omega) (by omega)
    obtain ⟨x, hx, hpx⟩ := ho (i + 1) (by omega)
    obtain ⟨v, hv⟩ := NxP.all g hd.inv.wf (pr x) fun p hp => g.prlt _ _ hp
    obtain ⟨c, _, hc⟩ := hv.get (hd.some g hx hpx)
    exact ⟨_, _, hd.step g hx hpx hc⟩
theorem last_round : ∀ (k : Nat) {T : Nat → Int}, rk pl T n ≤ k → Full n pl pr sc T → ∃ d, Fin_ n pl pr sc d
  | k, T, hk, hT => by
    obtain ⟨d, ch, hd⟩ := later_round g ho hT n g.pos (Nat.le_refl _)
    cases ch with
    | false => exact ⟨d, hd.fin g⟩
    | true =>
      have := hd.lt rfl
      match k, hk with
      | 0, hk => omega
      | k + 1, hk => exact last_round k (by omega) (hd.full g)
theorem idoms_are : ∃ d, Fin_ n pl pr sc d := by
  obtain ⟨d, hd⟩ := first_round g ho n g.pos (Nat.le_refl _)
  exact last_round g ho _ (Nat.le_refl _) (hd.full g)
end
theorem Fin_.uniq (g : G n pl pr sc) {d' : Nat → Int} (h : Fin_ n pl pr sc d) (h' : Fin_ n pl pr sc d') {y : Nat} (hy : y < n) : d y = d' y := by
  by_cases e : y = 0
  · subst e; rw [h.inv.wf.zero, h'.inv.wf.zero]
  · obtain ⟨c, h1, h2, h3, h4⟩ := h.inv.wf.low y hy e (h.done y hy)
    obtain ⟨c', h1', h2', h3', h4'⟩ := h'.inv.wf.low y hy e (h'.done y hy)
    have hcy : c ≠ y := fun e => by subst e; omega
    have hcy' : c' ≠ y := fun e => by subst e; omega
    have q1 : Anc d' c y := (h'.dom g hy).2 ((h.dom g hy).1 (.up e h1 (.refl _)))
    have q2 : Anc d c' y := (h.dom g hy).2 ((h'.dom g hy).1 (.up e h1' (.refl _)))
    have q3 : Anc d' c c' := by
      rcases q1.inv with e2 | ⟨c2, _, e2, q⟩
      · exact absurd e2 hcy
      · rw [h1'] at e2
        have : c' = c2 := Int.ofNat.inj e2
        subst this; exact q
    have q4 : Anc d c' c := by
      rcases q2.inv with e2 | ⟨c2, _, e2, q⟩
      · exact absurd e2 hcy'
      · rw [h1] at e2
        have : c = c2 := Int.ofNat.inj e2
        subst this; exact q
    have q5 : Anc d' c' c := (h'.dom g h2).2 ((h.dom g h2).1 q4)
    rw [h1, h1', h'.inv.wf.anti h2' h2 (h'.done c h2) h4' q3 q5]
end Go.Abs.Gra

/- Plain: a round of the making of the idoms, the first or a later one. No condition. -/
namespace Go.Abs.Gra
variable {n : Nat} {pl : Nat → Nat} {pr sc : Nat → List Nat} {d T : Nat → Int} {fs ch : Bool} {i x c : Nat}

/-- Ahead of a round: nothing made yet, all made, or nothing turns any more. -/
def RndP (n : Nat) (pl : Nat → Nat) (pr sc : Nat → List Nat) (fs ch : Bool) (d : Nat → Int) : Prop :=
  match ch, fs with
  | false, _ => Fin_ n pl pr sc d
  | true, true => d 0 = 0 ∧ ∀ y, y < n → y ≠ 0 → d y < 0
  | true, false => Full n pl pr sc d
def RndM (n : Nat) (pl : Nat → Nat) (fs ch : Bool) (d : Nat → Int) : Nat :=
  match ch, fs with
  | false, _ => 0
  | true, true => n * n + 2
  | true, false => rk pl d n + 1
/-- In a round, all of rank below i done. -/
def InR (n : Nat) (pl : Nat → Nat) (pr sc : Nat → List Nat) (fs : Bool) (T d : Nat → Int) (i : Nat) (ch : Bool) : Prop :=
  match fs with
  | true => Fst n pl pr sc d i ∧ (ch = false → i = 1)
  | false => Lat n pl pr sc T d i ch
theorem RndP.start : RndP n pl pr sc true true (upd (fun _ => -1) 0 0) := ⟨upd_at, fun y _ hy => by rw [upd_ne hy]; decide⟩
theorem InR.start (g : G n pl pr sc) (h : RndP n pl pr sc fs true T) : InR n pl pr sc fs T T 1 false := by
  cases fs with
  | true => exact ⟨Fst.start g h.1 h.2, fun _ => rfl⟩
  | false => exact Lat.start h g
theorem InR.wf (h : InR n pl pr sc fs T d i ch) : WF n pl d := by
  cases fs with
  | true => exact h.1.inv.wf
  | false => exact Lat.inv h |>.wf
theorem InR.some (g : G n pl pr sc) (h : InR n pl pr sc fs T d i ch) (hx : x < n) (hi : pl x = i) : ∃ p ∈ pr x, 0 ≤ d p := by
  cases fs with
  | true => exact h.1.some g hx hi
  | false => exact Lat.some g h hx hi
theorem InR.step (g : G n pl pr sc) (h : InR n pl pr sc fs T d i ch) (hx : x < n) (hi : pl x = i) (hN : Nx d (pr x) c) : InR n pl pr sc fs T (upd d x c) (i + 1) (ch || decide (d x ≠ (c : Int))) := by
  cases fs with
  | true =>
    refine ⟨h.1.step g hx hi hN, fun hch => ?_⟩
    rw [Bool.or_eq_false_iff, decide_eq_false_iff_not, Classical.not_not] at hch
    have := h.1.not x hx (by omega)
    rw [hch.2] at this; omega
  | false => exact Lat.step h g hx hi hN
theorem InR.fin (g : G n pl pr sc) (h : InR n pl pr sc fs T d n ch) : RndP n pl pr sc false ch d ∧ RndM n pl false ch d < RndM n pl fs true T := by
  cases fs with
  | true =>
    cases ch with
    | true =>
      have hf := h.1.full g
      have := hf.rk g
      exact ⟨hf, by show rk pl d n + 1 < n * n + 2; omega⟩
    | false => exact ⟨h.1.fin g (by have := h.2 rfl; omega), by show 0 < n * n + 2; omega⟩
  | false =>
    have h : Lat n pl pr sc T d n ch := h
    cases ch with
    | true =>
      have := h.lt rfl
      exact ⟨h.full g, by show rk pl d n + 1 < rk pl T n + 1; omega⟩
    | false => exact ⟨h.fin g, by show 0 < rk pl T n + 1; omega⟩
theorem G.ne0 (g : G n pl pr sc) (hi : pl x = i) (h1 : 1 ≤ i) : x ≠ 0 := fun e => by subst e; rw [g.zero] at hi; omega
end Go.Abs.Gra

/- Plain: the loop of a head, as it is gathered off a stack. No condition. -/
namespace Go.Abs.Gra
variable {sc : Nat → List Nat} {n h B b : Nat} {P S : List Nat}

/-- A block is in the loop of h, h being a head. -/
inductive InL (sc : Nat → List Nat) (n h : Nat) : Nat → Prop
  | head : InL sc n h h
  | src {p : Nat} : p < n → h ∈ sc p → ¬ Rch sc (h : Int) p → InL sc n h p
  | up {x p : Nat} : InL sc n h x → x ≠ h → p < n → x ∈ sc p → InL sc n h p
def Headed (sc : Nat → List Nat) (n h : Nat) : Prop := ∃ p, p < n ∧ h ∈ sc p ∧ ¬ Rch sc (h : Int) p
theorem InL.lt (hh : h < n) {x : Nat} (hx : InL sc n h x) : x < n := by
  cases hx with
  | head => exact hh
  | src a _ _ => exact a
  | up _ _ a _ => exact a

/-- What holds of the list and of the stack; its top is its last. -/
structure LpI (sc : Nat → List Nat) (n h B : Nat) (P S : List Nat) : Prop where
  nodup : P.Nodup
  lt : ∀ x ∈ P, x < n
  ltS : ∀ x ∈ S, x < n
  inP : ∀ x ∈ P, InL sc n h x
  inS : ∀ x ∈ S, InL sc n h x
  head : h ∈ P
  src : ∀ p, p < n → h ∈ sc p → ¬ Rch sc (h : Int) p → p ∈ P ∨ p ∈ S
  up : ∀ x ∈ P, x ≠ h → ∀ p, p < n → x ∈ sc p → p ∈ P ∨ p ∈ S
  len : S.length ≤ P.length * B
theorem LpI.start (hh : h < n) (hS : ∀ p, p ∈ S ↔ p < n ∧ h ∈ sc p ∧ ¬ Rch sc (h : Int) p) (hl : S.length ≤ B) : LpI sc n h B [h] S where
  nodup := by simp
  lt := fun x hx => by rw [List.mem_singleton.1 hx]; exact hh
  ltS := fun x hx => ((hS x).1 hx).1
  inP := fun x hx => by rw [List.mem_singleton.1 hx]; exact .head
  inS := fun x hx => .src ((hS x).1 hx).1 ((hS x).1 hx).2.1 ((hS x).1 hx).2.2
  head := List.mem_singleton.2 rfl
  src := fun p a b c => .inr ((hS p).2 ⟨a, b, c⟩)
  up := fun x hx hne => absurd (List.mem_singleton.1 hx) hne
  len := by simpa using hl
theorem LpI.old (I : LpI sc n h B P (S ++ [b])) (hb : b ∈ P) : LpI sc n h B P S where
  nodup := I.nodup
  lt := I.lt
  ltS := fun x hx => I.ltS x (List.mem_append_left _ hx)
  inP := I.inP
  inS := fun x hx => I.inS x (List.mem_append_left _ hx)
  head := I.head
  src := fun p a c d => (I.src p a c d).elim .inl fun e => (List.mem_append.1 e).elim .inr fun e => .inl (by rw [List.mem_singleton.1 e]; exact hb)
  up := fun x hx hne p a c => (I.up x hx hne p a c).elim .inl fun e => (List.mem_append.1 e).elim .inr fun e => .inl (by rw [List.mem_singleton.1 e]; exact hb)
  len := by have := I.len; rw [List.length_append] at this; exact Nat.le_trans (Nat.le_add_right _ _) this
theorem LpI.new (I : LpI sc n h B P (S ++ [b])) (hb : ¬ b ∈ P) (hB : (preds sc n b).length ≤ B) : LpI sc n h B (P ++ [b]) (S ++ preds sc n b) where
  nodup := List.nodup_append.2 ⟨I.nodup, by simp, fun a ha c hc e => by rw [List.mem_singleton.1 hc] at e; subst e; exact hb ha⟩
  lt := fun x hx => (List.mem_append.1 hx).elim (I.lt x) fun e => by rw [List.mem_singleton.1 e]; exact I.ltS b (by simp)
  ltS := fun x hx => (List.mem_append.1 hx).elim (fun e => I.ltS x (List.mem_append_left _ e)) fun e => (mem_preds.1 e).1
  inP := fun x hx => (List.mem_append.1 hx).elim (I.inP x) fun e => by rw [List.mem_singleton.1 e]; exact I.inS b (by simp)
  inS := fun x hx => (List.mem_append.1 hx).elim (fun e => I.inS x (List.mem_append_left _ e)) fun e => .up (I.inS b (by simp)) (fun e2 => hb (by rw [e2]; exact I.head)) (mem_preds.1 e).1 (mem_preds.1 e).2
  head := List.mem_append_left _ I.head
  src := fun p a c d => (I.src p a c d).elim (fun e => .inl (List.mem_append_left _ e)) fun e => (List.mem_append.1 e).elim (fun e => .inr (List.mem_append_left _ e)) fun e => .inl (List.mem_append_right _ e)
  up := fun x hx hne p a c => by
    rcases List.mem_append.1 hx with hx | hx
    · exact (I.up x hx hne p a c).elim (fun e => .inl (List.mem_append_left _ e)) fun e => (List.mem_append.1 e).elim (fun e => .inr (List.mem_append_left _ e)) fun e => .inl (List.mem_append_right _ e)
    · rw [List.mem_singleton.1 hx] at c
      exact .inr (List.mem_append_right _ (mem_preds.2 ⟨a, c⟩))
  len := by
    have := I.len
    simp only [List.length_append, List.length_singleton, Nat.add_mul, Nat.one_mul] at this ⊢
    omega
theorem LpI.done (I : LpI sc n h B P []) (x : Nat) : x ∈ P ↔ InL sc n h x := ⟨I.inP x, fun hx => by
  induction hx with
  | head => exact I.head
  | src a b c => exact (I.src _ a b c).elim id fun e => by cases e
  | up _ hne a b ih => exact (I.up _ ih hne _ a b).elim id fun e => by cases e⟩

def lpM (n B : Nat) (P S : List Nat) : Nat := (n - P.length) * (B + 1) + S.length
theorem lpM_old : lpM n B P S < lpM n B P (S ++ [b]) := by unfold lpM; simp
theorem LpI.room (I : LpI sc n h B P (S ++ [b])) (hb : ¬ b ∈ P) : P.length < n := by
  have := (nodup_len n (P ++ [b]) (List.nodup_append.2 ⟨I.nodup, by simp, fun a ha c hc e => by rw [List.mem_singleton.1 hc] at e; subst e; exact hb ha⟩)
    fun x hx => (List.mem_append.1 hx).elim (I.lt x) fun e => by rw [List.mem_singleton.1 e]; exact I.ltS b (by simp)).1
  rw [List.length_append, List.length_singleton] at this
  omega
theorem lpM_new {R : List Nat} (hp : P.length < n) (hR : R.length ≤ B) : lpM n B (P ++ [b]) (S ++ R) < lpM n B P (S ++ [b]) := by
  unfold lpM
  simp only [List.length_append, List.length_singleton]
  obtain ⟨t, ht⟩ : ∃ t, n - P.length = t + 1 := ⟨n - P.length - 1, by omega⟩
  rw [ht, show n - (P.length + 1) = t by omega, Nat.succ_mul]
  omega

/-- The loop's blocks in the order in which they are found. -/
def run (sc : Nat → List Nat) (n : Nat) : Nat → List Nat → List Nat → List Nat
  | 0, P, _ => P
  | k + 1, P, S => match S.getLast? with
    | none => P
    | some b => if b ∈ P then run sc n k P S.dropLast else run sc n k (P ++ [b]) (S.dropLast ++ preds sc n b)
theorem run_nil {k : Nat} : run sc n k P [] = P := by cases k <;> rfl
theorem run_old {k : Nat} (hb : b ∈ P) : run sc n (k + 1) P (S ++ [b]) = run sc n k P S := by
  rw [run]; simp [hb]
theorem run_new {k : Nat} (hb : ¬ b ∈ P) : run sc n (k + 1) P (S ++ [b]) = run sc n k (P ++ [b]) (S ++ preds sc n b) := by
  rw [run]; simp [hb]
theorem run_ok (hB : ∀ b, (preds sc n b).length ≤ B) : ∀ (k : Nat) (P S : List Nat), LpI sc n h B P S → lpM n B P S ≤ k → LpI sc n h B (run sc n k P S) []
  | 0, P, S, I, hk => by
    have : S = [] := List.length_eq_zero_iff.1 (by unfold lpM at hk; omega)
    subst this; exact I
  | k + 1, P, S, I, hk => by
    rcases List.eq_nil_or_concat S with rfl | ⟨L, b, rfl⟩
    · rw [run_nil]; exact I
    · rw [List.concat_eq_append] at I hk ⊢
      by_cases hb : b ∈ P
      · rw [run_old hb]
        exact run_ok hB k P L (I.old hb) (by have := lpM_old (n := n) (B := B) (P := P) (S := L) (b := b); omega)
      · rw [run_new hb]
        exact run_ok hB k _ _ (I.new hb (hB b)) (by have := lpM_new (n := n) (B := B) (b := b) (S := L) (I.room hb) (hB b); omega)
open Classical in
/-- Whence edges lead back to h, once for each edge. -/
noncomputable def backs (sc : Nat → List Nat) (n h : Nat) : List Nat := (preds sc n h).filter fun p => decide (¬ Rch sc (h : Int) p)
open Classical in
theorem mem_backs {p : Nat} : p ∈ backs sc n h ↔ p < n ∧ h ∈ sc p ∧ ¬ Rch sc (h : Int) p := by
  unfold backs
  rw [List.mem_filter, mem_preds, decide_eq_true_eq, and_assoc]
noncomputable def loopF (sc : Nat → List Nat) (n B h : Nat) : List Nat := run sc n (lpM n B [h] (backs sc n h)) [h] (backs sc n h)
theorem loopF_start (hB : ∀ b, (preds sc n b).length ≤ B) (hh : h < n) : LpI sc n h B [h] (backs sc n h) :=
  LpI.start hh (fun p => mem_backs) (Nat.le_trans (List.length_filter_le _ _) (hB h))
theorem loopF_ok (hB : ∀ b, (preds sc n b).length ≤ B) (hh : h < n) : LpI sc n h B (loopF sc n B h) [] :=
  run_ok hB _ _ _ (loopF_start hB hh) (Nat.le_refl _)

open Classical in
/-- Of how many heads' loops, of the first k, a block is. -/
noncomputable def depF (sc : Nat → List Nat) (n : Nat) : Nat → Nat → Nat
  | 0, _ => 0
  | k + 1, x => depF sc n k x + if Headed sc n k ∧ InL sc n k x then 1 else 0
theorem depF_le : ∀ (k x : Nat), depF sc n k x ≤ k
  | 0, _ => Nat.le_refl _
  | k + 1, x => by
    have := depF_le k x
    rw [depF]; split <;> omega
theorem depF_in {k x : Nat} (hk : Headed sc n k ∧ InL sc n k x) : depF sc n (k + 1) x = depF sc n k x + 1 := by
  rw [depF, if_pos hk]
theorem depF_out {k x : Nat} (hk : ¬ (Headed sc n k ∧ InL sc n k x)) : depF sc n (k + 1) x = depF sc n k x := by
  rw [depF, if_neg hk]; rfl
/-- So far as j blocks of a loop are counted. -/
noncomputable def depG (sc : Nat → List Nat) (n : Nat) (L : List Nat) (k j x : Nat) : Nat := depF sc n k x + if x ∈ L.take j then 1 else 0
theorem depG_zero {L : List Nat} {k x : Nat} : depG sc n L k 0 x = depF sc n k x := by unfold depG; simp
theorem depG_step {L : List Nat} (hL : L.Nodup) {k j x : Nat} (hj : j < L.length) : depG sc n L k (j + 1) x = if x = L.getD j 0 then depG sc n L k j x + 1 else depG sc n L k j x := by
  have hg : L.getD j 0 = L[j] := by rw [List.getD_eq_getElem?_getD, List.getElem?_eq_getElem hj]; rfl
  have ht : L.take (j + 1) = L.take j ++ [L[j]] := by rw [List.take_add_one, List.getElem?_eq_getElem hj]; rfl
  have hn : ¬ L[j] ∈ L.take j := fun hm => by
    rw [← List.take_append_drop j L, List.nodup_append] at hL
    exact hL.2.2 _ hm _ (by rw [List.drop_eq_getElem_cons hj]; exact List.mem_cons_self ..) rfl
  unfold depG
  rw [hg, ht]
  by_cases e : x = L[j]
  · subst e; rw [if_pos rfl, if_pos (List.mem_append_right _ (List.mem_singleton.2 rfl)), if_neg hn]
  · rw [if_neg e]
    by_cases hx : x ∈ L.take j
    · rw [if_pos (List.mem_append_left _ hx), if_pos hx]
    · rw [if_neg fun h => (List.mem_append.1 h).elim hx fun h => e (List.mem_singleton.1 h), if_neg hx]
theorem depG_all (hB : ∀ b, (preds sc n b).length ≤ B) {k : Nat} (hk : k < n) (hh : Headed sc n k) (x : Nat) : depG sc n (loopF sc n B k) k (loopF sc n B k).length x = depF sc n (k + 1) x := by
  have hm := (loopF_ok hB hk).done x
  unfold depG
  rw [List.take_length]
  by_cases hx : InL sc n k x
  · rw [if_pos (hm.2 hx), depF_in ⟨hh, hx⟩]
  · rw [if_neg fun h => hx (hm.1 h), depF_out fun h => hx h.2]; rfl
theorem depF_no {k : Nat} (hk : ¬ Headed sc n k) (x : Nat) : depF sc n (k + 1) x = depF sc n k x := depF_out fun h => hk h.1
theorem depG_le {L : List Nat} {k j x : Nat} : depG sc n L k j x ≤ k + 1 := by
  have := depF_le (sc := sc) (n := n) k x
  unfold depG; split <;> omega
end Go.Abs.Gra

/- Plain: the best of a block's dominators is its idom; the loop of a head, as it is gathered by rounds. No condition. -/
namespace Go.Abs.Gra
variable {n b k c i h t : Nat} {pl : Nat → Nat} {d : Nat → Int} {sc : Nat → List Nat} {m : Nat → Bool} {sm : Bool}

/-- The best of the first k dominators of b. -/
def Bst (d : Nat → Int) (b k : Nat) (v : Option Nat) : Prop := match v with
  | none => ∀ a, a < k → a ≠ b → ¬ Anc d a b
  | some c => c < k ∧ c ≠ b ∧ Anc d c b ∧ ∀ a, a < k → a ≠ b → Anc d a b → Anc d a c
theorem Bst.zero : Bst d b 0 none := fun a ha => absurd ha (by omega)
theorem Bst.skip {v : Option Nat} (h : Bst d b k v) (hk : k = b ∨ ¬ Anc d k b) : Bst d b (k + 1) v := by
  cases v with
  | none =>
    intro a ha hne
    by_cases e : a = k
    · subst e; exact hk.elim (fun e => absurd e hne) id
    · exact h a (by omega) hne
  | some c =>
    obtain ⟨h1, h2, h3, h4⟩ := h
    refine ⟨by omega, h2, h3, fun a ha hne hA => ?_⟩
    by_cases e : a = k
    · subst e; exact hk.elim (fun e => absurd e hne) fun e => absurd hA e
    · exact h4 a (by omega) hne hA
theorem Bst.keep (hW : WF n pl d) (hall : ∀ y, y < n → 0 ≤ d y) (hb : b < n) (h : Bst d b k (some c)) (hk : ¬ Anc d c k) (hA : Anc d k b) : Bst d b (k + 1) (some c) := by
  obtain ⟨h1, h2, h3, h4⟩ := h
  refine ⟨by omega, h2, h3, fun a ha hne hA2 => ?_⟩
  by_cases e : a = k
  · subst e
    rcases Nat.le_total (pl c) (pl a) with hl | hl
    · exact absurd (hW.tot h3 hA hb (hall b hb) hl) hk
    · exact hW.tot hA h3 hb (hall b hb) hl
  · exact h4 a (by omega) hne hA2
theorem Bst.first (h : Bst d b k none) (hne : k ≠ b) (hA : Anc d k b) : Bst d b (k + 1) (some k) :=
  ⟨by omega, hne, hA, fun a ha hne' hA' => by
    by_cases e : a = k
    · subst e; exact .refl _
    · exact absurd hA' (h a (by omega) hne')⟩
theorem Bst.next (h : Bst d b k (some c)) (hne : k ≠ b) (hA : Anc d k b) (hc : Anc d c k) : Bst d b (k + 1) (some k) :=
  ⟨by omega, hne, hA, fun a ha hne' hA' => by
    by_cases e : a = k
    · subst e; exact .refl _
    · exact (h.2.2.2 a (by omega) hne' hA').trans hc⟩
theorem Bst.none_fin (hW : WF n pl d) (hall : ∀ y, y < n → 0 ≤ d y) (hb : b < n) (h : Bst d b n none) : b = 0 := Classical.byContradiction fun h0 => by
  obtain ⟨c0, e, hlt, hpl, _⟩ := hW.low b hb h0 (hall b hb)
  exact h c0 hlt (fun e => by subst e; omega) (.up h0 e (.refl _))
theorem Bst.some_fin (hW : WF n pl d) (hall : ∀ y, y < n → 0 ≤ d y) (hb : b < n) (h : Bst d b n (some c)) : b ≠ 0 ∧ d b = (c : Int) := by
  obtain ⟨h1, h2, h3, h4⟩ := h
  have h0 : b ≠ 0 := fun e => by subst e; exact h2 h3.zero
  obtain ⟨c0, e, hlt, hpl, _⟩ := hW.low b hb h0 (hall b hb)
  refine ⟨h0, ?_⟩
  have ha := h4 c0 hlt (fun e => by subst e; omega) (.up h0 e (.refl _))
  rcases h3.inv with e2 | ⟨c', _, e2, h5⟩
  · exact absurd e2 h2
  · rw [e] at e2
    have : c0 = c' := Int.ofNat.inj e2
    subst this
    rw [e, hW.anti h1 hlt (hall _ hlt) (hall _ h1) ha h5]

/-- Edges of blocks below i, and the first k of i: p leads to x by one of them. -/
def Dn (sc : Nat → List Nat) (i k x p : Nat) : Prop := p < i ∧ x ∈ sc p ∨ p = i ∧ x ∈ (sc i).take k
theorem Dn.zero {x p : Nat} : ¬ Dn sc 0 0 x p := fun h => by
  rcases h with ⟨h, _⟩ | ⟨_, h⟩
  · omega
  · simp at h
theorem Dn.next {x p : Nat} (hk : (sc i).length ≤ k) (h : Dn sc (i + 1) 0 x p) : Dn sc i k x p := by
  rcases h with ⟨h, hx⟩ | ⟨_, h⟩
  · by_cases e : p = i
    · subst e; exact .inr ⟨rfl, by rw [List.take_of_length_le hk]; exact hx⟩
    · exact .inl ⟨by omega, hx⟩
  · simp at h
theorem Dn.snoc {x p : Nat} (ht : (sc i).take (k + 1) = (sc i).take k ++ [t]) (h : Dn sc i (k + 1) x p) : Dn sc i k x p ∨ p = i ∧ x = t := by
  rcases h with h | ⟨h1, h⟩
  · exact .inl (.inl h)
  · rw [ht] at h
    rcases List.mem_append.1 h with h | h
    · exact .inl (.inr ⟨h1, h⟩)
    · exact .inr ⟨h1, List.mem_singleton.1 h⟩
theorem setB_of {j x : Nat} (hm : setB m j x = true) : m x = true ∨ x = j := by
  unfold setB at hm
  rw [Bool.or_eq_true, decide_eq_true_eq] at hm
  exact hm
theorem setB_keep {j x : Nat} (hm : m x = true) : setB m j x = true := by unfold setB; rw [hm]; rfl
theorem setB_at {j : Nat} : setB m j j = true := by unfold setB; simp
/-- Those from which an edge leads back to h. -/
structure SrI (sc : Nat → List Nat) (n h i k : Nat) (m : Nat → Bool) (sm : Bool) : Prop where
  snd : ∀ x, x < n → m x = true → InL sc n h x
  hd : m h = true
  cov : ∀ p, Dn sc i k h p → ¬ Rch sc (h : Int) p → m p = true
  yes : sm = true → Headed sc n h
  no : sm = false → ∀ p, Dn sc i k h p → Rch sc (h : Int) p
theorem SrI.start : SrI sc n h 0 0 (fun x => decide (x = h)) false where
  snd := fun x _ hm => by rw [of_decide_eq_true hm]; exact .head
  hd := decide_eq_true rfl
  cov := fun p hp => absurd hp Dn.zero
  yes := fun e => by cases e
  no := fun _ p hp => absurd hp Dn.zero
theorem SrI.next (I : SrI sc n h i k m sm) (hk : (sc i).length ≤ k) : SrI sc n h (i + 1) 0 m sm :=
  ⟨I.snd, I.hd, fun p hp => I.cov p (hp.next hk), I.yes, fun e p hp => I.no e p (hp.next hk)⟩
theorem SrI.hit (I : SrI sc n h i k m sm) (hi : i < n) (ht : (sc i).take (k + 1) = (sc i).take k ++ [h]) (hD : ¬ Rch sc (h : Int) i) : SrI sc n h i (k + 1) (setB m i) true := by
  have hm : h ∈ sc i := List.mem_of_mem_take (i := k + 1) (by rw [ht]; simp)
  refine ⟨fun x hx hb => ?_, setB_keep I.hd, fun p hp hD2 => ?_, fun _ => ⟨i, hi, hm, hD⟩, fun e => by cases e⟩
  · rcases setB_of hb with hb | rfl
    · exact I.snd x hx hb
    · exact .src hi hm hD
  · rcases hp.snoc ht with hp | ⟨rfl, _⟩
    · exact setB_keep (I.cov p hp hD2)
    · exact setB_at
theorem SrI.miss (I : SrI sc n h i k m sm) (ht : (sc i).take (k + 1) = (sc i).take k ++ [t]) (hD : t = h → Rch sc (h : Int) i) : SrI sc n h i (k + 1) m sm := by
  refine ⟨I.snd, I.hd, fun p hp hD2 => ?_, I.yes, fun e p hp => ?_⟩
  · rcases hp.snoc ht with hp | ⟨rfl, e⟩
    · exact I.cov p hp hD2
    · exact absurd (hD e.symm) hD2
  · rcases hp.snoc ht with hp | ⟨rfl, e⟩
    · exact I.no ‹_› p hp
    · exact hD e.symm
/-- All that is marked is of the loop; and those from which an edge leads back are marked. -/
structure ClI (sc : Nat → List Nat) (n h : Nat) (m : Nat → Bool) : Prop where
  snd : ∀ x, x < n → m x = true → InL sc n h x
  hd : m h = true
  cov : ∀ p, p < n → h ∈ sc p → ¬ Rch sc (h : Int) p → m p = true
theorem SrI.clI (I : SrI sc n h n 0 m sm) : ClI sc n h m := ⟨I.snd, I.hd, fun p hp hh hD => I.cov p (.inl ⟨hp, hh⟩) hD⟩
theorem SrI.none (I : SrI sc n h n 0 m false) : ¬ Headed sc n h := fun ⟨p, hp, hh, hD⟩ => hD (I.no rfl p (.inl ⟨hp, hh⟩))
theorem ClI.set (I : ClI sc n h m) (hi : i < n) (ht : t ∈ sc i) (htn : t < n) (hm : m t = true) (hne : t ≠ h) : ClI sc n h (setB m i) := by
  refine ⟨fun x hx hb => ?_, setB_keep I.hd, fun p hp hh hD => setB_keep (I.cov p hp hh hD)⟩
  rcases setB_of hb with hb | rfl
  · exact I.snd x hx hb
  · exact .up (I.snd t htn hm) hne hi ht
def Cl2 (sc : Nat → List Nat) (h : Nat) (m : Nat → Bool) (i k : Nat) : Prop := ∀ p x, Dn sc i k x p → m x = true → x ≠ h → m p = true
theorem Cl2.zero : Cl2 sc h m 0 0 := fun p x hp => absurd hp Dn.zero
theorem Cl2.next (H : Cl2 sc h m i k) (hk : (sc i).length ≤ k) : Cl2 sc h m (i + 1) 0 := fun p x hp => H p x (hp.next hk)
theorem Cl2.snoc (H : Cl2 sc h m i k) (ht : (sc i).take (k + 1) = (sc i).take k ++ [t]) (hD : m t = true → t ≠ h → m i = true) : Cl2 sc h m i (k + 1) := fun p x hp hm hne => by
  rcases hp.snoc ht with hp | ⟨rfl, rfl⟩
  · exact H p x hp hm hne
  · exact hD hm hne
theorem ClI.done (I : ClI sc n h m) (H : Cl2 sc h m n 0) {x : Nat} (hx : x < n) : m x = true ↔ InL sc n h x := ⟨I.snd x hx, fun hi => by
  clear hx
  induction hi with
  | head => exact I.hd
  | src a b c => exact I.cov _ a b c
  | up _ hne a b ih => exact H _ _ (.inl ⟨a, b⟩) ih hne⟩
end Go.Abs.Gra
