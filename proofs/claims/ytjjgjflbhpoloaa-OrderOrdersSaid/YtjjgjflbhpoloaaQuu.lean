/- Drawn regions with several writers. No condition. -/
import Derived.Test.YtjjgjflbhpoloaaData
set_option linter.unusedVariables false
set_option linter.unusedSimpArgs false
namespace Go.Abs
open Go Go.RowKit
set_option linter.unusedVariables false
/-! Drawn regions with several writers: each quiet operation names the own objects that it rests on, each other one those that it leaves alone. -/
def flatB (a b : Nm) : Bool := match a.ix, b.ix with
 | [], [] => Nat.beq a.id b.id
 | _, _ => false
theorem flatB_spec {a b : Nm} (h : flatB a b = true) : a = b := by
 obtain ⟨a, ax⟩ := a
 obtain ⟨b, bx⟩ := b
 unfold flatB at h
 split at h
 ·rename_i e1 e2
  simp only at e1 e2 h
  have := Nat.eq_of_beq_eq_true h
  subst this; subst e1; subst e2; rfl
 ·cases h
def leadB (e : List (Nat × AV)) (t : Nat) (nm : Nm) : Option Nat := match look e t with
 | some (.obj a off) => (match flatB a nm with
  | true => some off
  | false => none)
 | _ => none
theorem leadB_spec {e : List (Nat × AV)} {t : Nat} {nm : Nm} {off : Nat} (h : leadB e t nm = some off) : look e t = some (.obj nm off) := by
 unfold leadB at h
 split at h
 ·rename_i a off' hl
  split at h
  ·rename_i hf
   injection h with h; subst h
   rw [hl, flatB_spec hf]
  ·cases h
 ·cases h
def witB (e e' : List (Nat × AV)) (d : Option Nat) (nm : Nm) : List (Nat × AV) → Bool
 | [] => false
 | (t, _) :: r => (match leadB e t nm, leadB e' t nm, (match d with | some d => Nat.beq t d | none => false) with
  | some o, some o', false => Nat.beq o o'
  | _, _, _ => false) || witB e e' d nm r
theorem witB_spec {e e' : List (Nat × AV)} {d : Option Nat} {nm : Nm} : ∀ {l : List (Nat × AV)}, witB e e' d nm l = true → ∃ t off, look e t = some (.obj nm off) ∧ look e' t = some (.obj nm off) ∧ d ≠ some t
 | [], h => by cases h
 | (t, x) :: r, h => by
  simp only [witB, Bool.or_eq_true] at h
  rcases h with h | h
  ·split at h
   ·rename_i o o' h1 h2 h3
    have e := Nat.eq_of_beq_eq_true h
    subst e
    refine ⟨t, o, leadB_spec h1, leadB_spec h2, fun e => ?_⟩
    subst e
    simp only [Nat.beq_refl] at h3; cases h3
   ·cases h
  ·exact witB_spec h
def oldB (h : List (Nat × HO)) (nm : Nm) : Bool := match nm.ix with
 | [] => Nat.ble 1000 nm.id && (match look h nm.id with
  | some o => o.flat
  | none => false)
 | _ => false
theorem oldB_spec {h : List (Nat × HO)} {nm : Nm} (e : oldB h nm = true) : 1000 ≤ nm.id ∧ ∃ o, Has h nm o := by
 obtain ⟨i, ix⟩ := nm
 unfold oldB at e
 split at e
 ·rename_i hx
  simp only at hx
  subst hx
  rw [Bool.and_eq_true] at e
  obtain ⟨e1, e2⟩ := e
  refine ⟨Nat.le_of_ble_eq_true e1, ?_⟩
  split at e2
  ·rename_i o ho
   exact ⟨o, Has.of_look ho e2⟩
  ·cases e2
 ·cases e
def keepK (s s' : St) (p : List Nat) (d : Option Nat) (nm : Nm) : Bool := p.elem nm.id || (oldB s'.heap nm || witB s.env s'.env d nm s.env)
def dedE : List Nat → List (Nat × AV) → List (Nat × AV)
 | _, [] => []
 | l, (t, x) :: r => match l.elem t with
  | true => dedE l r
  | false => (t, x) :: dedE (t :: l) r
theorem dedE_look : ∀ (e : List (Nat × AV)) (l : List Nat) {t : Nat} {x : AV}, look (dedE l e) t = some x → look e t = some x ∧ l.elem t = false
 | [], l, t, x, h => by cases h
 | (k, y) :: r, l, t, x, h => by
  unfold dedE at h
  split at h
  ·rename_i hk
   obtain ⟨h1, h2⟩ := dedE_look r l h
   refine ⟨?_, h2⟩
   rw [look_cons, if_neg (fun e => by subst e; rw [h2] at hk; cases hk)]; exact h1
  ·rename_i hk
   rw [look_cons] at h ⊢
   split at h
   ·rename_i e; subst e; rw [if_pos rfl]; exact ⟨h, hk⟩
   ·rename_i e
    obtain ⟨h1, h2⟩ := dedE_look r _ h
    rw [if_neg e]
    refine ⟨h1, ?_⟩
    rw [List.elem_eq_mem] at h2 ⊢
    rw [decide_eq_false_iff_not] at h2 ⊢
    exact fun hm => h2 (List.mem_cons_of_mem _ hm)
def St.bck (s' s : St) (p : List Nat) (d : Option Nat) : St := match p with
 | [] => { s' with env := dedE [] s'.env }
 | p => { env := dedE [] (protE p d s.env s.env ++ s'.env), heap := s'.heap ++ (s.heap.filter fun x => p.elem x.1).map fun x => (x.1, x.2.keep (keepK s s' p d)) }
theorem RelA.ded {cx τ F s a w} (h : RelA cx τ F s a w) : RelA cx τ F { s with env := dedE [] s.env } a w :=
 ⟨⟨h.wr.keeps, h.wr.fz, h.wr.fne, h.wr.fsub, h.wr.fsup, h.wr.tlt, h.wr.inj, h.wr.obj, h.wr.dom, h.wr.old, h.wr.cxn⟩, h.size, h.defers, fun t x ht => h.env t x (dedE_look _ _ ht).1⟩
theorem back_rel2 {cx τ F s a w} (h : RelA cx τ F s a w) {p : List Nat} {s' : St} {a' : Act} {w' : World} {τ' : Nm → Option Value} {F' : Nat → Prop} (h' : RelA (cxP cx τ F p w) τ' F' s' a' w') (hno : (p.all fun k => (look s'.heap k).isNone) = true) {d : Option Nat} (hsame : ∀ t, d ≠ some t → a'.tmps.getD t undef = a.tmps.getD t undef) :
  ∃ τ2 F2, RelA cx τ2 F2 (s'.bck s p d) a' w' ∧ (∀ b, F b → F2 b) ∧ (∀ nm u, p.elem nm.id = true → τ nm = some u → τ2 nm = some u) := by
 have hk := h'.wr.keeps
 have hst := stays h hk
 have hX : ∀ b, (cxP cx τ F p w).X b → cx.w.heap.size ≤ b ∨ cx.X b := fun b ⟨nm, u, _, hu, hb⟩ => (h.wr.tlt nm u b hu hb).1
 have keepsC : Keeps cx.X cx.w w' := by
  refine ⟨hk.os.trans h.wr.keeps.os, hk.tape.trans h.wr.keeps.tape, hk.output.trans h.wr.keeps.output, Nat.le_trans h.wr.keeps.size hk.size, fun k hlt hx => ?_⟩
  rw [hk.block k (Nat.lt_of_lt_of_le hlt h.wr.keeps.size) fun hx' => (hX k hx').elim (fun h => by omega) hx]
  exact h.wr.keeps.block k hlt hx
 have fsubC : ∀ k, F' k → cx.F k ∨ cx.w.heap.size ≤ k ∨ cx.X k := fun k hF => by
  rcases h'.wr.fsub k hF with q | q | q
  ·exact h.wr.fsub k q
  ·exact .inr (.inl (Nat.le_trans h.wr.keeps.size q))
  ·exact .inr (hX k q)
 have tltC : ∀ nm v b, τ' nm = some v → hblk v = some b → (cx.w.heap.size ≤ b ∨ cx.X b) ∧ b < w'.heap.size := fun nm v b hv hb => by
  obtain ⟨q1, q2⟩ := h'.wr.tlt nm v b hv hb
  refine ⟨?_, q2⟩
  rcases q1 with q1 | q1
  ·exact .inl (Nat.le_trans h.wr.keeps.size q1)
  ·exact hX b q1
 cases p with
 | nil =>
  exact ⟨τ', F', RelA.ded (s := s') ⟨⟨keepsC, h'.wr.fz, h'.wr.fne, fsubC, fun k hF => h'.wr.fsup k (h.wr.fsup k hF), tltC, h'.wr.inj, h'.wr.obj, h'.wr.dom, h'.wr.old, h'.wr.cxn⟩, h'.size, h'.defers, h'.env⟩, fun b hb => h'.wr.fsup b hb, fun nm u hp _ => by cases hp⟩
 | cons i r =>
  generalize hpp : i :: r = p at *
  have hback : s'.bck s p d = { env := dedE [] (protE p d s.env s.env ++ s'.env), heap := s'.heap ++ (s.heap.filter fun x => p.elem x.1).map fun x => (x.1, x.2.keep (keepK s s' p d)) } := by rw [← hpp]; rfl
  rw [hback]
  have notin : ∀ nm o, Has s'.heap nm o → p.elem nm.id = false := fun nm o ho => by
   cases hc : p.elem nm.id with
   | false => rfl
   | true =>
    rw [List.elem_eq_mem, decide_eq_true_iff] at hc
    have := List.all_eq_true.1 hno nm.id hc
    have h2 := ho.isSome
    cases hl : look s'.heap nm.id with
    | none => rw [hl] at h2; cases h2
    | some x => rw [hl] at this; cases this
  let τ2 : Nm → Option Value := fun nm => if p.elem nm.id = true then τ nm else τ' nm
  have t2p : ∀ nm, p.elem nm.id = true → τ2 nm = τ nm := fun nm hp => if_pos hp
  have t2n : ∀ nm u, τ' nm = some u → τ2 nm = some u ∧ p.elem nm.id = false := fun nm u hu => by
   obtain ⟨o, ho⟩ := h'.wr.dom nm u hu
   have := notin nm o ho
   refine ⟨?_, this⟩
   show (if p.elem nm.id = true then τ nm else τ' nm) = some u
   rw [this]; exact hu
  have tkp : ∀ nm u, keepK s s' p d nm = true → τ nm = some u → τ2 nm = some u := fun nm u hk hu => by
   cases hp : p.elem nm.id with
   | true => rw [t2p nm hp]; exact hu
   | false =>
    unfold keepK at hk
    rw [hp, Bool.false_or, Bool.or_eq_true] at hk
    rcases hk with hk | hk
    ·obtain ⟨h1, o, h2⟩ := oldB_spec hk
     obtain ⟨v, h3, _⟩ := h'.wr.obj nm o h2
     have h4 := h.wr.old nm u h1 hu
     have h5 : cx.τ0 nm = some v := h'.wr.old nm v h1 h3
     rw [h4] at h5
     injection h5 with h5
     subst h5
     exact (t2n nm _ h3).1
    obtain ⟨t, off, e1, e2, e3⟩ := witB_spec hk
    have q1 := (h.env t _ e1).2
    have q2 := (h'.env t _ e2).2
    rw [hsame t e3] at q2
    generalize a.tmps.getD t undef = v at q1 q2
    cases q1 with
    | obj _ _ _ b hb =>
     cases q2 with
     | obj _ _ _ _ hb' =>
      rw [hu] at hb
      injection hb with hb; subst hb
      exact (t2n nm _ hb').1
  have kinds : ∀ nm u, τ2 nm = some u → (p.elem nm.id = true ∧ τ nm = some u) ∨ (p.elem nm.id = false ∧ τ' nm = some u) := fun nm u hu => by
   have hu : (if p.elem nm.id = true then τ nm else τ' nm) = some u := hu
   split at hu
   ·exact .inl ⟨by assumption, hu⟩
   ·rename_i hp; exact .inr ⟨by simpa using hp, hu⟩
  have apart : ∀ nm u b nm' u', p.elem nm.id = true → τ nm = some u → hblk u = some b → τ' nm' = some u' → hblk u' = some b → False := fun nm u b nm' u' hp hu hb hu' hb' => by
   rcases (h'.wr.tlt nm' u' b hu' hb').1 with q | ⟨nm2, u2, hp2, hu2, hb2⟩
   ·have := (h.wr.tlt nm u b hu hb).2
    have q : w.heap.size ≤ b := q
    omega
   ·have := h.wr.inj nm nm2 u u2 b hu hu2 hb hb2
    rw [this, hp2] at hp; cases hp
  refine ⟨τ2, F', ⟨⟨keepsC, h'.wr.fz, fun k nm u hF hu hb => ?_, fsubC, fun k hF => h'.wr.fsup k (h.wr.fsup k hF), fun nm u b hu hb => ?_, fun nm nm' u u' b hu hu' hb hb' => ?_, fun nm o ho => ?_, fun nm u hu => ?_, fun nm u ho hu => ?_, h.wr.cxn⟩, h'.size, h'.defers, fun t x ht => ?_⟩, fun b hb => h'.wr.fsup b hb, fun nm u hp hu => by rw [t2p nm hp]; exact hu⟩
  ·rcases kinds nm u hu with ⟨hp, hu⟩ | ⟨_, hu⟩
   ·rcases h'.wr.fsub k hF with q | q | ⟨nm2, u2, hp2, hu2, hb2⟩
    ·exact h.wr.fne k nm u q hu hb
    ·have := (h.wr.tlt nm u k hu hb).2
     have q : w.heap.size ≤ k := q
     omega
    ·have := h.wr.inj nm nm2 u u2 k hu hu2 hb hb2
     rw [this, hp2] at hp; cases hp
   ·exact h'.wr.fne k nm u hF hu hb
  ·rcases kinds nm u hu with ⟨hp, hu⟩ | ⟨_, hu⟩
   ·exact ⟨(h.wr.tlt nm u b hu hb).1, Nat.lt_of_lt_of_le (h.wr.tlt nm u b hu hb).2 hk.size⟩
   ·exact tltC nm u b hu hb
  ·rcases kinds nm u hu with ⟨hp, hu⟩ | ⟨hp, hu⟩ <;> rcases kinds nm' u' hu' with ⟨hp', hu'⟩ | ⟨hp', hu'⟩
   ·exact h.wr.inj nm nm' u u' b hu hu' hb hb'
   ·exact (apart nm u b nm' u' hp hu hb hu' hb').elim
   ·exact (apart nm' u' b nm u hp' hu' hb' hu hb).elim
   ·exact h'.wr.inj nm nm' u u' b hu hu' hb hb'
  ·obtain ⟨x, g1, g2, g3⟩ := ho
   rw [look_append] at g1
   cases hl : look s'.heap nm.id with
   | some y =>
    rw [hl] at g1; simp only [Option.some.injEq] at g1; subst g1
    have hh : Has s'.heap nm o := ⟨y, hl, g2, g3⟩
    obtain ⟨v, q1, q2⟩ := h'.wr.obj nm o hh
    exact ⟨v, (t2n nm v q1).1, q2.mono (fun _ h => h) (fun _ _ => rfl) (fun id u hu => (t2n id u hu).1) (fun _ _ => rfl)⟩
   | none =>
    rw [hl] at g1
    have hh : Has ((s.heap.filter fun x => p.elem x.1).map fun x => (x.1, x.2.keep (keepK s s' p d))) nm o := ⟨x, g1, g2, g3⟩
    obtain ⟨q1, y0, q2, rfl⟩ := (has_part (k := keepK s s' p d) (p := fun k => p.elem k)).1 hh
    obtain ⟨v, r1, r2⟩ := h.wr.obj nm y0 q2
    refine ⟨v, by rw [t2p nm q1]; exact r1, ?_⟩
    have r3 : HOk F w τ2 (y0.keep (keepK s s' p d)) v := keep_hok2 (fun id hid u hu => tkp id u hid hu) r2
    exact r3.mono (h'.wr.fsup) (fun k hF => hst k (.inl hF)) (fun _ _ h => h) fun b hb => hst b (.inr ⟨nm, v, q1, r1, hb⟩)
  ·rcases kinds nm u hu with ⟨hp, hu⟩ | ⟨hp, hu⟩
   ·obtain ⟨o, ho⟩ := h.wr.dom nm u hu
    obtain ⟨x, g1, g2, g3⟩ := (has_part (k := keepK s s' p d) (p := fun k => p.elem k)).2 ⟨hp, o, ho, rfl⟩
    refine ⟨_, x, ?_, g2, g3⟩
    rw [look_append]
    have : look s'.heap nm.id = none := by
     cases hl : look s'.heap nm.id with
     | none => rfl
     | some y =>
      rw [List.elem_eq_mem, decide_eq_true_iff] at hp
      have := List.all_eq_true.1 hno nm.id hp
      rw [hl] at this; cases this
    rw [this]; exact g1
   ·obtain ⟨o, x, g1, g2, g3⟩ := h'.wr.dom nm u hu
    refine ⟨o, x, ?_, g2, g3⟩
    rw [look_append, g1]
  ·rcases kinds nm u hu with ⟨hp, hu⟩ | ⟨hp, hu⟩
   ·exact h.wr.old nm u ho hu
   ·exact h'.wr.old nm u ho hu
  ·have ht := (dedE_look _ _ ht).1
   rw [look_append] at ht
   cases hl : look (protE p d s.env s.env) t with
   | some y =>
    rw [hl] at ht; simp only [Option.some.injEq] at ht; subst ht
    obtain ⟨q1, q2, q3⟩ := protE_at hl
    obtain ⟨r1, r2⟩ := h.env t y q1
    refine ⟨r1, ?_⟩
    rw [hsame t q2]
    have r3 : Rep F w τ2 y _ := r2.refs (p := fun nm => inIds p nm = true) (fun nm hnm => t2p nm hnm) (refsP_of (fun _ h => h) q3)
    exact r3.mono h'.wr.fsup (fun k hF => hst k (.inl hF)) (fun _ _ h => h)
   | none =>
    rw [hl] at ht
    obtain ⟨r1, r2⟩ := h'.env t x ht
    exact ⟨r1, r2.mono (fun _ h => h) (fun _ _ => rfl) (fun id u hu => (t2n id u hu).1)⟩
inductive Qu
 | fin
 | no
 | q (i : Nat) (p : List Nat) (t : Qu)
 | k (i : Nat) (p : List Nat) (t r : Qu)
def pOf : List (Nat × List Nat) → Nat → List Nat
 | [], _ => []
 | (i, p) :: r, j => match Nat.beq j i with
  | true => p
  | false => pOf r j
def leB (a b : List Nat) : Bool := a.all fun x => b.elem x
def Qu.okB (ops : Array Oper) (ps : List (Nat × List Nat)) : Qu → Nat → Array Bool → List Nat → Bool → Bool
 | .fin, _, _, rem, e => e && rem.isEmpty
 | .no, _, _, rem, e => !e && rem.isEmpty
 | .q i p t, f + 1, listed, rem, e => e && rem.elem i && (ps.map (·.1)).elem i && leB p (pOf ps i) && Region.free .any ops listed i && t.okB ops ps f (listed.setIfInBounds i true) (Region.ready .any ops (listed.setIfInBounds i true)) true
 | .k i p t r, f + 1, listed, j :: rem, _ => Nat.beq i j && !(ps.map (·.1)).elem i && ((ps.map (·.1)).all fun l => !listed.getD l false || depB .any ops ops.size i l || leB (pOf ps l) p) &&
   t.okB ops ps f (listed.setIfInBounds i true) (Region.ready .any ops (listed.setIfInBounds i true)) true && r.okB ops ps (f + 1) listed rem false
 | _, _, _, _, _ => false
def qopS (B : Tabs) (n : Nat) (g : Bool) (wrap : AV → AV) (s : St) (op : Op) (d : Option Nat) (K : St → Prop) : Prop :=
 match d with
 | some d => chk (Nat.blt d n) (qop B g s op fun y => K (s.put d (wrap y)))
 | none => False
theorem qopS_sound (B : Tabs) {cx : Cx} (hP : cx.P = B.P) {s : St} {o : Oper} {K : St → Prop} {g : Bool} {wrap : AV → AV} {p : List Nat} (h0 : qopD B cx.n g wrap p s o.op o.dst fun _ => True) (h : qopS B cx.n g wrap s o.op o.dst K) (hwrap : g = true → ∀ F w τ y v, Rep F w τ y v → Rep F w τ (wrap y) v)
  (hfalse : g = false → ∀ F w τ y, Rep F w τ (wrap y) undef) {τ F a w} (hr : RelA cx τ F s a w) :
  ∃ s' v, K s' ∧ RelA cx τ F s' (a.put o.dst v) w ∧ (g = true → ∀ w', (∀ b, stay F τ p b → w'.heap[b]? = w.heap[b]?) → (execOp a.eval o).run B.P w' = .ok (.value v) w') ∧ (g = false → v = undef) := by
 obtain ⟨_, v0, _, _, h3, h4⟩ := qopD_sound B hP h0 hwrap hfalse hr
 unfold qopS at h
 split at h
 ·rename_i d hdst
  obtain ⟨hd, h⟩ := chk_spec h
  have hd := blt_lt hd
  obtain ⟨y, hy, hs⟩ := qop_sound B h
  cases hg : g with
  | true =>
   obtain ⟨v, h1, h2⟩ := hs cx _ F w a hg hr
   have e := (h3 hg w fun _ _ => rfl).symm.trans (h2 o rfl w fun _ _ => rfl)
   injection e with e _
   injection e with e
   subst e
   exact ⟨_, v0, hy, by rw [hdst]; exact hr.put d _ v0 (hwrap hg _ _ _ _ _ h1) hd, fun _ => h3 hg, fun h => by cases h⟩
  | false => exact ⟨_, undef, hy, by rw [hdst]; exact hr.put d _ undef (hfalse hg _ _ _ _) hd, fun h => by (cases h), fun _ => rfl⟩
 ·exact h.elim
def qU (B : Tabs) (n : Nat) (ops : List Oper) (K : St → Prop) : Qu → St → Prop
 | .fin, s => K s
 | .no, s => True
 | .q i p t, s => (match ops[i]? with
  | some o => (match o.guard with
   | none => qopD B n true (fun y => y) p s o.op o.dst (fun _ => True) ∧ qopS B n true (fun y => y) s o.op o.dst fun s' => qU B n ops K t s'
   | some (k, b) => guardB ops s k b fun g => qopD B n g (fun y => .cond g y) p s o.op o.dst (fun _ => True) ∧ qopS B n g (fun y => .cond g y) s o.op o.dst fun s' => qU B n ops K t s')
  | none => False)
 | .k i p t r, s => (match ops[i]? with
  | some o => forceS (s.hide p) fun s1 => aops B n ops [o] s1 fun s' => chk (p.all fun k => (look s'.heap k).isNone) (forceS (s'.bck s p o.dst) fun s' => qU B n ops K t s')
  | none => False) ∧ qU B n ops K r s
theorem leB_mem {a b : List Nat} (h : leB a b = true) {x : Nat} (hx : a.elem x = true) : b.elem x = true := by
 rw [List.elem_eq_mem, decide_eq_true_iff] at hx
 exact List.all_eq_true.1 h x hx
theorem stay_le {F : Nat → Prop} {τ : Nm → Option Value} {a b : List Nat} (h : leB a b = true) {k : Nat} (hk : stay F τ a k) : stay F τ b k := by
 rcases hk with hk | ⟨nm, u, h1, h2, h3⟩
 ·exact .inl hk
 ·exact .inr ⟨nm, u, leB_mem h h1, h2, h3⟩
def PastOk (ops : Array Oper) (ql : List Nat) (ps : List (Nat × List Nat)) (listed : Array Bool) (F : Nat → Prop) (τ : Nm → Option Value) (x : Past) : Prop :=
 x.i ∈ ql ∧ listed.getD x.i false = true ∧ ((¬ noDep .any ops (fun k => ql.elem k) x.i listed) ∨ ∀ b, x.R b → stay F τ (pOf ps x.i) b)
theorem qU_sound (B : Tabs) {cx : Cx} (hP : cx.P = B.P) {ops : List Oper} {ps : List (Nat × List Nat)} {ql : List Nat} (hql : ql = ps.map (·.1)) {K : St → Prop} {Q : Exit → Act → World → Prop} (hQ : ∀ s' a' w', K s' → Rel cx s' a' w' → Q .normal a' w') (hQp : ∀ c a w, ¬ Q (.panic c) a w)
  (hsel : Region.noSelect ops.toArray = true) :
  ∀ (t : Qu) {f : Nat} {listed : Array Bool} {rem : List Nat} {e : Bool}, t.okB ops.toArray ps f listed rem e = true → Closed .any ops.toArray listed → (∀ k ∈ rem, k ∈ Region.ready .any ops.toArray listed) → ∀ {s : St}, qU B cx.n ops K t s → ∀ {τ F} {a : Act} {w : World}, RelA cx τ F s a w →
   ∀ (L : List Past), (∀ x ∈ L, PastOk ops.toArray ql ps listed F τ x) → JL ops.toArray ql L listed w →
   (e = true → rem = Region.ready .any ops.toArray listed → wpAnyJ cx.P .any ops.toArray Q (JL ops.toArray ql L) f listed a w) ∧
   (∀ i f', i ∈ rem → f = f' + 1 → (e = true → rem = Region.ready .any ops.toArray listed) → wpOp cx.P ops.toArray Q i (fun a' w' => JL ops.toArray ql L (listed.setIfInBounds i true) w' ∧ wpAnyJ cx.P .any ops.toArray Q (JL ops.toArray ql L) f' (listed.setIfInBounds i true) a' w') a w)
 | .fin, f, listed, rem, e, hok, hcl, hsub, s, h, τ, F, a, w, hr, L, hL, hJ => by
  simp only [Qu.okB, Bool.and_eq_true, List.isEmpty_iff] at hok
  obtain ⟨_, rfl⟩ := hok
  refine ⟨fun _ hrem => ?_, fun i f' hi => absurd hi (by simp)⟩
  cases f with
  | zero => exact ⟨hrem.symm, hQ _ _ _ h ⟨τ, F, hr⟩⟩
  | succ f => exact ⟨fun _ => hQ _ _ _ h ⟨τ, F, hr⟩, fun i hi => absurd hi (by rw [← hrem]; simp)⟩
 | .no, f, listed, rem, e, hok, hcl, hsub, s, h, τ, F, a, w, hr, L, hL, hJ => by
  simp only [Qu.okB, Bool.and_eq_true, List.isEmpty_iff, Bool.not_eq_true'] at hok
  obtain ⟨he, rfl⟩ := hok
  exact ⟨fun h1 => absurd h1 (by rw [he]; simp), fun i f' hi => absurd hi (by simp)⟩
 | .q i p t, 0, listed, rem, e, hok, hcl, hsub, s, h, τ, F, a, w, hr, L, hL, hJ => by simp [Qu.okB] at hok
 | .q i p t, f + 1, listed, rem, e, hok, hcl, hsub, s, h, τ, F, a, w, hr, L, hL, hJ => by
  simp only [Qu.okB, Bool.and_eq_true] at hok
  obtain ⟨⟨⟨⟨⟨he, hrem⟩, hqi0⟩, hle⟩, hfree⟩, hok⟩ := hok
  rw [← hql] at hqi0
  have hqi : (fun k => ql.elem k) i = true := hqi0
  have key : rem = Region.ready .any ops.toArray listed → wpAnyJ cx.P .any ops.toArray Q (JL ops.toArray ql L) (f + 1) listed a w := by
   intro hre
   have hir : i ∈ Region.ready .any ops.toArray listed := by rw [← hre]; rw [List.elem_eq_mem, decide_eq_true_iff] at hrem; exact hrem
   unfold qU at h
   cases ho : ops[i]? with
   | none => rw [ho] at h; exact h.elim
   | some o =>
    rw [ho] at h
    simp only at h
    have ho' : ops.toArray[i]? = some o := by simpa using ho
    have main : ∃ s' v, qU B cx.n ops K t s' ∧ RelA cx τ F s' (a.put o.dst v) w ∧ YieldsC cx.P ops.toArray (fun w' => ∀ b, stay F τ p b → w'.heap[b]? = w.heap[b]?) o v a := by
     cases hg : o.guard with
     | none =>
      rw [hg] at h
      obtain ⟨s', v, h1, h2, h3, _⟩ := qopS_sound B hP h.1 h.2 (fun _ _ _ _ _ _ h => h) (fun h => by cases h) hr
      exact ⟨s', v, h1, h2, .inl ⟨by unfold Region.wanted; rw [hg], by rw [hP]; exact h3 rfl⟩⟩
     | some kb =>
      obtain ⟨k, b⟩ := kb
      rw [hg] at h
      obtain ⟨g, hG, hw⟩ := wanted_guard hg h hr.env
      obtain ⟨s', v, h1, h2, h3, h4⟩ := qopS_sound B hP hG.1 hG.2 (fun hg _ _ _ _ _ h => by subst hg; exact .condT _ _ _ h) (fun hg _ _ _ _ => by subst hg; exact .condF _ _) hr
      refine ⟨s', v, h1, h2, ?_⟩
      cases g with
      | true => exact .inl ⟨hw, by rw [hP]; exact h3 rfl⟩
      | false => exact .inr ⟨hw, h4 rfl⟩
    obtain ⟨s', v, h1, h2, hy⟩ := main
    let x : Past := ⟨i, stay F τ p, w⟩
    have hin : (listed.setIfInBounds i true).getD i false = true := by
     have hun := (mem_ready.1 hir).1
     have hlt : i < listed.size := by
      rcases Nat.lt_or_ge i listed.size with h' | h'
      ·exact h'
      ·simp [Array.getElem?_eq_none h'] at hun
     simp [hlt]
    have IH := (qU_sound B hP hql hQ hQp hsel t hok (closed_set hcl hir) (fun k hk => hk) h1 h2 (x :: L) (fun y hy => by
     rcases List.mem_cons.1 hy with rfl | hy
     ·exact ⟨by rw [List.elem_eq_mem, decide_eq_true_iff] at hqi0; exact hqi0, hin, .inr fun b hb => stay_le hle hb⟩
     ·obtain ⟨q1, q2, q3⟩ := hL y hy
      exact ⟨q1, getD_set_true q2, q3.imp (fun q h => q ((noDep_set hqi).1 h)) id⟩) (fun y hy hnd b hb => by
     rcases List.mem_cons.1 hy with rfl | hy
     ·rfl
     ·exact hJ y hy ((noDep_set hqi).1 hnd) b hb)).1 rfl rfl
    refine wpAnyJ_first (qs := fun k => ql.elem k) (C := fun w' => ∀ b, stay F τ p b → w'.heap[b]? = w.heap[b]?) ho' hqi (Region.noSelect_spec hsel) (fun c a w h => absurd h (hQp _ _ _)) (fun l w' h y hy hnd => h y hy ((noDep_set hqi).2 hnd)) (fun l w' h y hy hnd => h y hy ((noDep_set hqi).1 hnd)) f listed a w hcl (Region.free_spec ho' hfree) hir hy (fun b _ => rfl) hJ ?_
    exact wpAnyJ_mono (fun l w' h => ⟨fun hnd => h x (List.mem_cons_self ..) hnd, fun y hy => h y (List.mem_cons_of_mem _ hy)⟩) _ _ _ _ IH
  refine ⟨fun _ => key, fun i' f' hi' hf hre => ?_⟩
  obtain rfl : f = f' := by omega
  exact (key (hre he)).2 i' (by rw [← hre he]; exact hi')
 | .k i p t r, 0, listed, rem, e, hok, hcl, hsub, s, h, τ, F, a, w, hr, L, hL, hJ => by simp [Qu.okB] at hok
 | .k i p t r, f + 1, listed, [], e, hok, hcl, hsub, s, h, τ, F, a, w, hr, L, hL, hJ => by simp [Qu.okB] at hok
 | .k i p t r, f + 1, listed, j :: rem, e, hok, hcl, hsub, s, h, τ, F, a, w, hr, L, hL, hJ => by
  simp only [Qu.okB, Bool.and_eq_true, Bool.not_eq_true'] at hok
  obtain ⟨⟨⟨⟨hij, hnq⟩, hdep⟩, hok1⟩, hok2⟩ := hok
  rw [← hql] at hnq hdep
  have hij := Nat.eq_of_beq_eq_true hij
  subst hij
  unfold qU at h
  obtain ⟨h1, h2⟩ := h
  have hir := hsub i (List.mem_cons_self ..)
  have hin : (listed.setIfInBounds i true).getD i false = true := by
   have hun := (mem_ready.1 hir).1
   have hlt : i < listed.size := by
    rcases Nat.lt_or_ge i listed.size with h' | h'
    ·exact h'
    ·simp [Array.getElem?_eq_none h'] at hun
   simp [hlt]
  have hmono : ∀ (x : Nat) (l : Array Bool) (k : Nat), noDep .any ops.toArray (fun k => ql.elem k) x (l.setIfInBounds k true) → noDep .any ops.toArray (fun k => ql.elem k) x l := fun x l k h m hm hl => h m hm (getD_set_true hl)
  have head : wpOp cx.P ops.toArray Q i (fun a' w' => JL ops.toArray ql L (listed.setIfInBounds i true) w' ∧ wpAnyJ cx.P .any ops.toArray Q (JL ops.toArray ql L) f (listed.setIfInBounds i true) a' w') a w := by
   cases ho : ops[i]? with
   | none => rw [ho] at h1; exact h1.elim
   | some o =>
    rw [ho] at h1
    simp only at h1
    have ho' : ops.toArray[i]? = some o := by simpa using ho
    have h1 := forceS_spec h1
    have hr0 := hide_rel hr p
    have W := one_sound B (cx := cxP cx τ F p w) hP ho h1 ⟨_, _, hr0⟩ (Q := Q) (next := fun a' w' => ∃ s', chk (p.all fun k => (look s'.heap k).isNone) (forceS (s'.bck s p o.dst) fun s' => qU B cx.n ops K t s') ∧ Rel (cxP cx τ F p w) s' a' w') fun s' a' w' hK hr' => ⟨s', hK, hr'⟩
    refine wpOp_mono (fun a' w' ⟨hsame, s', hK, hr'⟩ => ?_) (wpOp_same ho' W)
    obtain ⟨τ', F', hr'⟩ := hr'
    obtain ⟨hno, hqt⟩ := chk_spec hK
    have hqt := forceS_spec hqt
    obtain ⟨τ2, F2, hr2, hF2, ht2⟩ := back_rel2 hr hr' hno hsame
    -- a quiet operation of before: this one waits for it, or leaves alone what it rests on
    have alive : ∀ x ∈ L, noDep .any ops.toArray (fun k => ql.elem k) x.i (listed.setIfInBounds i true) → leB (pOf ps x.i) p = true ∧ ∀ b, x.R b → stay F τ (pOf ps x.i) b := fun x hx hnd => by
     obtain ⟨q1, q2, q3⟩ := hL x hx
     have h3 := hnd i hnq hin
     have h4 := List.all_eq_true.1 hdep x.i q1
     rw [q2, h3] at h4
     simp only [Bool.not_true, Bool.false_or] at h4
     exact ⟨h4, q3.resolve_left fun q => q (hmono _ _ _ hnd)⟩
    have hJ' : JL ops.toArray ql L (listed.setIfInBounds i true) w' := fun x hx hnd b hb => by
     obtain ⟨q1, q2⟩ := alive x hx hnd
     rw [stays hr hr'.wr.keeps b (stay_le q1 (q2 b hb))]
     exact hJ x hx (hmono _ _ _ hnd) b hb
    refine ⟨hJ', (qU_sound B hP hql hQ hQp hsel t hok1 (closed_set hcl hir) (fun k hk => hk) hqt hr2 L (fun x hx => ?_) hJ').1 rfl rfl⟩
    obtain ⟨q1, q2, q3⟩ := hL x hx
    refine ⟨q1, getD_set_true q2, ?_⟩
    by_cases hnd : noDep .any ops.toArray (fun k => ql.elem k) x.i (listed.setIfInBounds i true)
    ·obtain ⟨g1, g2⟩ := alive x hx hnd
     refine .inr fun b hb => ?_
     rcases g2 b hb with q | ⟨nm, u, e1, e2, e3⟩
     ·exact .inl (hF2 b q)
     ·exact .inr ⟨nm, u, e1, ht2 nm u (leB_mem g1 e1) e2, e3⟩
    ·exact .inl hnd
  have key : ∀ i' f', i' ∈ i :: rem → f + 1 = f' + 1 → wpOp cx.P ops.toArray Q i' (fun a' w' => JL ops.toArray ql L (listed.setIfInBounds i' true) w' ∧ wpAnyJ cx.P .any ops.toArray Q (JL ops.toArray ql L) f' (listed.setIfInBounds i' true) a' w') a w := by
   intro i' f' hi' hf
   obtain rfl : f = f' := by omega
   rcases List.mem_cons.1 hi' with rfl | hi'
   ·exact head
   ·exact (qU_sound B hP hql hQ hQp hsel r hok2 hcl (fun k hk => hsub k (List.mem_cons_of_mem _ hk)) h2 hr L hL hJ).2 i' f hi' rfl (fun h => by cases h)
  refine ⟨fun _ hrem => ⟨fun h0 => absurd h0 (by rw [← hrem]; simp), fun i' hi' => key i' f (by rw [hrem]; exact hi') rfl⟩, fun i' f' hi' hf _ => key i' f' hi' hf⟩
theorem AWp.quietU {B : Tabs} {n : Nat} {s : St} {Q : Exit → St → Prop} {id : Nat} {l : List Oper} (t : Qu) (ps : List (Nat × List Nat)) (hm : B.P.follows .mixedOrders = true)
  (hB : (Region.noSelect l.toArray && t.okB l.toArray ps l.toArray.size (Array.replicate l.toArray.size false) (Region.ready .any l.toArray (Array.replicate l.toArray.size false)) true) = true) (h : qU B n l (fun s' => Unit → Q .normal s') t s) : AWp B n (.region id l.toArray true) s Q := by
 unfold AWp
 intro cx hP hn a w hr
 subst hn
 obtain ⟨τ, F, hr⟩ := hr
 rw [Bool.and_eq_true] at hB
 have hb0 : Below w.heap.size w { w with drawn := w.drawn + 1 } := ⟨rfl, rfl, rfl, Nat.le_refl _, fun _ _ => rfl⟩
 have hr1 := hr.later hb0
 let Q' : Exit → Act → World → Prop := fun e a' w' => e = .normal ∧ ∃ s', (Unit → Q .normal s') ∧ Rel cx s' a' w'
 have key := (qU_sound B hP rfl (Q := Q') (fun s' a' w' hK hr' => ⟨rfl, s', hK, hr'⟩) (fun c a w h => by cases h.1) hB.1 t hB.2 (fun j oj _ hl => by rw [getD_repl] at hl; cases hl) (fun k hk => hk) h hr1 [] (fun x hx => by cases hx) (fun x hx => by cases hx)).1 rfl rfl
 have := wp_region_any (id := id) (P := cx.P) (by rw [hP]; exact hm) (wpAnyJ_any _ _ _ _ key)
 rw [hP] at this
 refine wp_mono this fun e a' w' ⟨he, s', h1, h2⟩ => ?_
 subst he
 exact ⟨s', h1 (), h2⟩
end Go.Abs
