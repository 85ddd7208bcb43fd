/- Regions that draw their order. No condition. -/
import Derived.Test.YtgkdmdfjfepcdaaDoorAbsw
import Derived.Orders
set_option linter.unusedVariables false
set_option linter.unusedSimpArgs false
namespace Go.Abs
open Go Go.RowKit
set_option linter.unusedVariables false

/-- The orders that a drawn region may take, as a tree of choices. -/
inductive Tr
  | fin
  | no
  | alt (i : Nat) (t r : Tr)

def Tr.okB (ops : Array Oper) : Tr → Nat → Array Bool → List Nat → Bool → Bool
  | .fin, _, _, rem, e => e && rem.isEmpty
  | .no, _, _, rem, e => !e && rem.isEmpty
  | .alt i t r, f + 1, listed, j :: rem, _ => Nat.beq i j && (t.okB ops f (listed.setIfInBounds i true) (Region.ready .any ops (listed.setIfInBounds i true)) true && r.okB ops (f + 1) listed rem false)
  | .alt _ _ _, _, _, _, _ => false

def anyT (B : Tabs) (n : Nat) (ops : List Oper) (K : St → Prop) : Tr → St → Prop
  | .fin, s => K s
  | .no, s => True
  | .alt i t r, s => (match ops[i]? with | some o => aops B n ops [o] s (fun s' => anyT B n ops K t s') | none => False) ∧ anyT B n ops K r s

theorem one_sound (B : Tabs) {cx : Cx} (hP : cx.P = B.P) {ops : List Oper} {o : Oper} {i : Nat} (hi : ops[i]? = some o) {s : St} {K : St → Prop} (h : aops B cx.n ops [o] s K) {a : Act} {w : World} (hr : Rel cx s a w)
    {next : Act → World → Prop} {Q : Exit → Act → World → Prop} (hn : ∀ s' a' w', K s' → Rel cx s' a' w' → next a' w') : wpOp cx.P ops.toArray Q i next a w := by
  have hi' : ops.toArray[i]? = some o := by simpa using hi
  unfold wpOp
  simp only [hi']
  unfold aops at h
  split at h
  · rename_i hg
    have hw : Region.wanted o (yielded ops.toArray a.tmps) = true := by unfold Region.wanted; rw [hg]
    rw [if_pos hw]
    exact .inl (aop_sound B hP h hr fun s' a' w' hK hr' => hn _ _ _ hK hr')
  · rename_i i b hg
    have hr0 := hr
    obtain ⟨τ, F, hr1⟩ := hr
    obtain ⟨g, hG, hw⟩ := wanted_guard hg h hr1.env
    obtain ⟨h1, h2⟩ := aopG_sound B hP (Q := Q) hG hr0 (next := next) fun s' a' w' hK hr' => hn _ _ _ hK hr'
    rw [hw]
    cases g with
    | true => rw [if_pos rfl]; exact .inl (h1 rfl)
    | false => rw [if_neg (by simp)]; exact h2 rfl

theorem anyT_sound (B : Tabs) {cx : Cx} (hP : cx.P = B.P) {ops : List Oper} {K : St → Prop} {Q : Exit → Act → World → Prop} (hQ : ∀ s' a' w', K s' → Rel cx s' a' w' → Q .normal a' w') :
    ∀ (t : Tr) {f : Nat} {listed : Array Bool} {rem : List Nat} {e : Bool}, t.okB ops.toArray f listed rem e = true → ∀ {s : St}, anyT B cx.n ops K t s → ∀ {a : Act} {w : World}, Rel cx s a w →
      (e = true → rem = Region.ready .any ops.toArray listed → wpAny cx.P .any ops.toArray Q f listed a w) ∧
      (∀ i f', i ∈ rem → f = f' + 1 → wpOp cx.P ops.toArray Q i (wpAny cx.P .any ops.toArray Q f' (listed.setIfInBounds i true)) a w)
  | .fin, f, listed, rem, e, hok, s, h, a, w, hr => by
    simp only [Tr.okB, Bool.and_eq_true, List.isEmpty_iff] at hok
    obtain ⟨_, rfl⟩ := hok
    refine ⟨fun _ hrem => ?_, fun i f' hi => absurd hi (by simp)⟩
    cases f with
    | zero => exact ⟨hrem.symm, hQ _ _ _ h hr⟩
    | succ f => exact ⟨fun _ => hQ _ _ _ h hr, fun i hi => absurd hi (by rw [← hrem]; simp)⟩
  | .no, f, listed, rem, e, hok, s, h, a, w, hr => by
    simp only [Tr.okB, Bool.and_eq_true, List.isEmpty_iff, Bool.not_eq_true'] at hok
    obtain ⟨he, rfl⟩ := hok
    exact ⟨fun h1 => absurd h1 (by rw [he]; simp), fun i f' hi => absurd hi (by simp)⟩
  | .alt i t r, 0, listed, rem, e, hok, s, h, a, w, hr => by simp [Tr.okB] at hok
  | .alt i t r, f + 1, listed, [], e, hok, s, h, a, w, hr => by simp [Tr.okB] at hok
  | .alt i t r, f + 1, listed, j :: rem, e, hok, s, h, a, w, hr => by
    simp only [Tr.okB, Bool.and_eq_true] at hok
    obtain ⟨hij, hok1, hok2⟩ := hok
    have hij := Nat.eq_of_beq_eq_true hij
    subst hij
    unfold anyT at h
    obtain ⟨h1, h2⟩ := h
    have key : ∀ i' f', i' ∈ i :: rem → f + 1 = f' + 1 → wpOp cx.P ops.toArray Q i' (wpAny cx.P .any ops.toArray Q f' (listed.setIfInBounds i' true)) a w := by
      intro i' f' hi' hf
      obtain rfl : f = f' := by omega
      rcases List.mem_cons.1 hi' with rfl | hi'
      · split at h1
        · rename_i o ho
          exact one_sound B hP ho h1 hr fun s' a' w' hK hr' => (anyT_sound B hP hQ t hok1 hK hr').1 rfl rfl
        · exact h1.elim
      · exact (anyT_sound B hP hQ r hok2 h2 hr).2 i' f hi' rfl
    refine ⟨fun _ hrem => ⟨fun h0 => absurd h0 (by rw [← hrem]; simp), fun i' hi' => key i' f (by rw [hrem]; exact hi') rfl⟩, key⟩

theorem AWp.any {B : Tabs} {n : Nat} {s : St} {Q : Exit → St → Prop} {id : Nat} {l : List Oper} (t : Tr) (hm : B.P.follows .mixedOrders = true)
    (hB : t.okB l.toArray l.toArray.size (Array.replicate l.toArray.size false) (Region.ready .any l.toArray (Array.replicate l.toArray.size false)) true = true) (h : anyT B n l (fun s' => Unit → Q .normal s') t s) : AWp B n (.region id l.toArray true) s Q := by
  unfold AWp
  intro cx hP hn a w hr
  subst hn
  rw [← hP]
  obtain ⟨τ, F, hr⟩ := hr
  have hb0 : Below w.heap.size w { w with drawn := w.drawn + 1 } := ⟨rfl, rfl, rfl, Nat.le_refl _, fun _ _ => rfl⟩
  have hr1 := hr.later hb0
  refine wp_region_any (by rw [hP]; exact hm) ?_
  exact (anyT_sound B hP (Q := fun e a' w' => ∃ s', Q e s' ∧ Rel cx s' a' w') (fun s' a' w' hK hr' => ⟨s', hK (), hr'⟩) t hB h ⟨τ, F, hr1⟩).1 rfl rfl
end Go.Abs

namespace Go.Abs
open Go Go.RowKit
set_option linter.unusedVariables false

section
variable {P : Program} {ops : Array Oper} {Q : Exit → Act → World → Prop} {md : Region.Mode}

/-- In every world of a kind the operation hands back this value, and leaves the world alone. -/
def YieldsC (P : Program) (ops : Array Oper) (C : World → Prop) (o : Oper) (v : Value) (a : Act) : Prop :=
  (Region.wanted o (yielded ops a.tmps) = true ∧ ∀ w, C w → (execOp a.eval o).run P w = .ok (.value v) w) ∨
  (Region.wanted o (yielded ops a.tmps) = false ∧ v = undef)

theorem YieldsC.wpOp {C : World → Prop} {i : Nat} {o : Oper} {v : Value} {a : Act} (hi : ops[i]? = some o) (hy : YieldsC P ops C o v a)
    {K : Act → World → Prop} {w : World} (hw : C w) (h : K (a.put o.dst v) w) : wpOp P ops Q i K a w := by
  unfold Go.wpOp
  simp only [hi]
  rcases hy with ⟨hw', hv⟩ | ⟨hw', rfl⟩
  · simp only [hw', if_true, Oper.wp, hv w hw, Oper.upon]; exact .inl h
  · simp only [hw', Bool.false_eq_true, if_false]; exact h

theorem YieldsC.of_same {C : World → Prop} {o : Oper} {v : Value} {a a' : Act} (hy : YieldsC P ops C o v a) (he : execOp a'.eval o = execOp a.eval o)
    (hw : Region.wanted o (yielded ops a'.tmps) = Region.wanted o (yielded ops a.tmps)) : YieldsC P ops C o v a' := by
  unfold YieldsC at *
  rw [he, hw]
  exact hy

theorem wpOp_putC {C : World → Prop} {j : Nat} {oi oj : Oper} {v : Value} (hj : ops[j]? = some oj) (hap : oi.apart ops oj = true)
    (hsi : ∀ cs b, oi.op ≠ .select cs b) (hsj : ∀ cs b, oj.op ≠ .select cs b)
    (hQ : ∀ c a w, Q (.panic c) (a.put oi.dst v) w → Q (.panic c) a w) {K : Act → World → Prop} {a : Act} {w : World}
    (hy : YieldsC P ops C oi v a) (h : wpOp P ops Q j K (a.put oi.dst v) w) :
    wpOp P ops Q j (fun a' w' => YieldsC P ops C oi v a' ∧ K (a'.put oi.dst v) w') a w := by
  obtain ⟨h1, h2, h3⟩ := Oper.apart_spec hap
  have keep : ∀ (a : Act), YieldsC P ops C oi v a → ∀ u, YieldsC P ops C oi v (a.put oj.dst u) := fun a hy u =>
    hy.of_same (execOp_put oi hsi a oj.dst u h3) (wanted_put oi a oj.dst u h3)
  have keepD : ∀ d, YieldsC P ops C oi v { a with defers := d :: a.defers } := fun d => hy.of_same rfl rfl
  unfold wpOp at *
  simp only [hj] at *
  rw [wanted_put oj a oi.dst v h1] at h
  split
  · rename_i hw
    simp only [hw, if_true] at h
    rcases h with h | ⟨hasks, hlets⟩
    case inr => exact .inr ⟨by unfold Oper.asks at *; rw [execOp_put oj hsj a oi.dst v h1] at hasks; exact hasks, hlets⟩
    refine .inl ?_
    unfold Oper.wp at *
    rw [execOp_put oj hsj a oi.dst v h1] at h
    generalize (execOp a.eval oj).run P w = r at *
    cases r with
    | ok n w' =>
      cases n <;> simp only [Oper.upon] at h ⊢
      case value u => exact ⟨keep a hy u, by rw [← Act.put_comm a v u h2]; exact h⟩
      case skip => exact ⟨keep a hy _, by rw [← Act.put_comm a v undef h2]; exact h⟩
      case defer d =>
        refine ⟨keep _ (keepD d) _, ?_⟩
        rw [← Act.put_comm _ v undef h2, ← Act.put_defers]
        exact h
      case enter f args =>
        refine Calls.mono h fun e w'' he => ?_
        cases e with
        | returned u => exact ⟨keep a hy u, by rw [← Act.put_comm a v u h2]; exact he⟩
        | panicked c => exact hQ _ _ _ he
        | outgrown => exact he
      case row row args => exact Rows.mono h fun u w'' he => ⟨keep a hy u, by rw [← Act.put_comm a v u h2]; exact he⟩
    | halt x w' =>
      cases x <;> simp only [Oper.upon] at h ⊢
      case panic u => exact hQ _ _ _ h
  · rename_i hw
    simp only [hw] at h
    exact ⟨keep a hy _, by rw [← Act.put_comm a v undef h2]; exact h⟩

/-- An operation writes its own slot alone. -/
theorem wpOp_same {j : Nat} {oj : Oper} (hj : ops[j]? = some oj) {K : Act → World → Prop} {a : Act} {w : World} (h : wpOp P ops Q j K a w) :
    wpOp P ops Q j (fun a' w' => (∀ t, oj.dst ≠ some t → a'.tmps.getD t undef = a.tmps.getD t undef) ∧ K a' w') a w := by
  have same : ∀ (a1 : Act) u t, a1.tmps = a.tmps → oj.dst ≠ some t → (a1.put oj.dst u).tmps.getD t undef = a.tmps.getD t undef := by
    intro a1 u t h1 hne
    cases hd : oj.dst with
    | none => simp only [Act.put]; rw [h1]
    | some d =>
      simp only [Act.put, Array.getD_eq_getD_getElem?]
      rw [Array.getElem?_setIfInBounds_ne (by rintro rfl; exact hne hd), h1]
  unfold wpOp at *
  simp only [hj] at *
  split
  · rename_i hw
    simp only [hw, if_true] at h
    rcases h with h | ⟨hasks, hlets⟩
    case inr => exact .inr ⟨hasks, hlets⟩
    refine .inl ?_
    unfold Oper.wp at *
    generalize (execOp a.eval oj).run P w = r at *
    cases r with
    | ok n w' =>
      cases n <;> simp only [Oper.upon] at h ⊢
      case value u => exact ⟨fun t ht => same a u t rfl ht, h⟩
      case skip => exact ⟨fun t ht => same a _ t rfl ht, h⟩
      case defer d => exact ⟨fun t ht => same _ _ t rfl ht, h⟩
      case enter f args =>
        refine Calls.mono h fun e w'' he => ?_
        cases e with
        | returned u => exact ⟨fun t ht => same a u t rfl ht, he⟩
        | panicked c => exact he
        | outgrown => exact he
      case row row args => exact Rows.mono h fun u w'' he => ⟨fun t ht => same a u t rfl ht, he⟩
    | halt x w' =>
      cases x <;> simp only [Oper.upon] at h ⊢
      case panic u => exact h
  · rename_i hw
    simp only [hw] at h
    exact ⟨fun t ht => same a _ t rfl ht, h⟩

/-- Every order, and in each of its worlds the listed operations and the world are as 'J' says. -/
def wpAnyJ (P : Program) (md : Region.Mode) (ops : Array Oper) (Q : Exit → Act → World → Prop) (J : Array Bool → World → Prop) : Nat → Array Bool → Act → World → Prop
  | 0, listed, a, w => Region.ready md ops listed = [] ∧ Q .normal a w
  | f + 1, listed, a, w => (Region.ready md ops listed = [] → Q .normal a w) ∧
    ∀ i ∈ Region.ready md ops listed, wpOp P ops Q i (fun a' w' => J (listed.setIfInBounds i true) w' ∧ wpAnyJ P md ops Q J f (listed.setIfInBounds i true) a' w') a w

theorem wpAnyJ_any {J : Array Bool → World → Prop} : ∀ (f : Nat) (listed : Array Bool) (a : Act) (w : World), wpAnyJ P md ops Q J f listed a w → wpAny P md ops Q f listed a w
  | 0, _, _, _, h => h
  | f + 1, _, _, _, h => ⟨h.1, fun i hi => wpOp_mono (fun a' w' h' => wpAnyJ_any f _ a' w' h'.2) (h.2 i hi)⟩
theorem wpAnyJ_mono {J J' : Array Bool → World → Prop} (hJ : ∀ l w, J l w → J' l w) : ∀ (f : Nat) (listed : Array Bool) (a : Act) (w : World), wpAnyJ P md ops Q J f listed a w → wpAnyJ P md ops Q J' f listed a w
  | 0, _, _, _, h => h
  | f + 1, _, _, _, h => ⟨h.1, fun i hi => wpOp_mono (fun a' w' h' => ⟨hJ _ _ h'.1, wpAnyJ_mono hJ f _ a' w' h'.2⟩) (h.2 i hi)⟩
/-- Where from here on 'J'' is nothing to ask. -/
theorem wpAnyJ_dead {J J' : Array Bool → World → Prop} {D : Array Bool → Prop} (hD : ∀ l i, D l → D (l.setIfInBounds i true)) (hJ : ∀ l w, D l → J' l w) : ∀ (f : Nat) (listed : Array Bool) (a : Act) (w : World), D listed → wpAnyJ P md ops Q J f listed a w → wpAnyJ P md ops Q J' f listed a w
  | 0, _, _, _, _, h => h
  | f + 1, _, _, _, hd, h => ⟨h.1, fun i hi => wpOp_mono (fun a' w' h' => ⟨hJ _ _ (hD _ _ hd), wpAnyJ_dead hD hJ f _ a' w' (hD _ _ hd) h'.2⟩) (h.2 i hi)⟩

/-- Does one operation wait for another one, by whatever steps? -/
def depB (md : Region.Mode) (ops : Array Oper) : Nat → Nat → Nat → Bool
  | 0, _, _ => false
  | f + 1, k, i => match ops[k]? with
    | some o => o.after.any fun e => Region.binds md e && (Nat.beq e.on i || depB md ops f e.on i)
    | none => false
def Closed (md : Region.Mode) (ops : Array Oper) (listed : Array Bool) : Prop := ∀ j oj, ops[j]? = some oj → listed.getD j false = true → ∀ e ∈ oj.after, Region.binds md e = true → listed.getD e.on false = true

theorem closed_set {listed : Array Bool} {k : Nat} (hc : Closed md ops listed) (hk : k ∈ Region.ready md ops listed) : Closed md ops (listed.setIfInBounds k true) := by
  obtain ⟨_, ok, hok, hall⟩ := mem_ready.1 hk
  intro j oj hj hl e he hb
  by_cases hkj : k = j
  · subst hkj
    have : oj = ok := Option.some.inj (hj.symm.trans hok)
    subst this
    exact getD_set_true (hall e he hb)
  · rw [getD_set_ne false hkj] at hl
    exact getD_set_true (hc j oj hj hl e he hb)

theorem dep_listed {listed : Array Bool} (hc : Closed md ops listed) {i : Nat} : ∀ (f k : Nat), depB md ops f k i = true → (∀ ok, ops[k]? = some ok → ∀ e ∈ ok.after, Region.binds md e = true → listed.getD e.on false = true) → listed.getD i false = true
  | 0, k, h, _ => by simp [depB] at h
  | f + 1, k, h, hk => by
    simp only [depB] at h
    split at h
    · rename_i o ho
      obtain ⟨e, he, hb⟩ := Array.any_eq_true'.1 h
      simp only [Bool.and_eq_true, Bool.or_eq_true] at hb
      have hl := hk o ho e he hb.1
      rcases hb.2 with hb2 | hb2
      · rw [← Nat.eq_of_beq_eq_true hb2]; exact hl
      · exact dep_listed hc f e.on hb2 fun ok hok e' he' hb' => hc e.on ok hok hl e' he' hb'
    · cases h

def noDep (md : Region.Mode) (ops : Array Oper) (qs : Nat → Bool) (i : Nat) (l : Array Bool) : Prop := ∀ k, qs k = false → l.getD k false = true → depB md ops ops.size k i = false

theorem getD_set_self {l : Array Bool} {k j : Nat} (h : (l.setIfInBounds k true).getD j false = true) : j = k ∨ l.getD j false = true := by
  by_cases e : k = j
  · exact .inl e.symm
  · rw [getD_set_ne false e] at h; exact .inr h

theorem wpAnyJ_first {qs : Nat → Bool} {C : World → Prop} {J : Array Bool → World → Prop} {i : Nat} {oi : Oper} {v : Value} (hi : ops[i]? = some oi) (hqi : qs i = true) (hsel : ∀ (j : Nat) (o : Oper) cs b, ops[j]? = some o → o.op ≠ .select cs b)
    (hQ : ∀ c a w, Q (.panic c) (a.put oi.dst v) w → Q (.panic c) a w) (hJ1 : ∀ l w, J (l.setIfInBounds i true) w → J l w) (hJ2 : ∀ l w, J l w → J (l.setIfInBounds i true) w) :
    ∀ (f : Nat) (listed : Array Bool) (a : Act) (w : World), Closed md ops listed →
      (∀ j oj, ops[j]? = some oj → j ≠ i → listed.getD j true = false → (∀ e ∈ oj.after, Region.binds md e = true → e.on ≠ i) → oi.apart ops oj = true) →
      i ∈ Region.ready md ops listed → YieldsC P ops C oi v a → C w → J listed w →
      wpAnyJ P md ops Q (fun l w' => (noDep md ops qs i l → C w') ∧ J l w') f (listed.setIfInBounds i true) (a.put oi.dst v) w → wpAnyJ P md ops Q J (f + 1) listed a w := by
  intro f
  induction f with
  | zero =>
    intro listed a w hcl _ hr hy hC hJ H
    refine ⟨fun h => (by rw [h] at hr; cases hr), fun j hj => ?_⟩
    by_cases hji : j = i
    · subst hji; exact hy.wpOp hi hC ⟨hJ2 _ _ hJ, H⟩
    · have := ready_mono hj hji
      rw [H.1] at this
      cases this
  | succ f ih =>
    intro listed a w hcl hfree hr hy hC hJ H
    have hin : listed.getD i false = false := by
      have h0 := (mem_ready.1 hr).1
      rcases Nat.lt_or_ge i listed.size with h' | h'
      · simp [h'] at h0 ⊢; exact h0
      · simp [Array.getElem?_eq_none h'] at h0
    refine ⟨fun h => (by rw [h] at hr; cases hr), fun j hj => ?_⟩
    by_cases hji : j = i
    · subst hji; exact hy.wpOp hi hC ⟨hJ2 _ _ hJ, wpAnyJ_mono (fun _ _ h => h.2) _ _ _ _ H⟩
    · have h1 := H.2 j (ready_mono hj hji)
      obtain ⟨hjun, oj, hoj, hall⟩ := mem_ready.1 hj
      have hnot : ∀ e ∈ oj.after, Region.binds md e = true → e.on ≠ i := fun e he hb heq => by
        have h1 := hall e he hb
        rw [heq, hin] at h1; cases h1
      have h2 := wpOp_putC hoj (hfree j oj hoj hji hjun hnot) (fun cs b => hsel i oi cs b hi) (fun cs b => hsel j oj cs b hoj) hQ hy h1
      have hfree' : ∀ k ok, ops[k]? = some ok → k ≠ i → (listed.setIfInBounds j true).getD k true = false →
          (∀ e ∈ ok.after, Region.binds md e = true → e.on ≠ i) → oi.apart ops ok = true := fun k ok hk hki hun hno => by
        refine hfree k ok hk hki ?_ hno
        by_cases hjk : j = k
        · subst hjk; exact hjun
        · rw [getD_set_ne true hjk] at hun; exact hun
      have hnd : noDep md ops qs i ((listed.setIfInBounds i true).setIfInBounds j true) := fun k hk hl => by
        cases hd : depB md ops ops.size k i with
        | false => rfl
        | true =>
          exfalso
          have key : listed.getD i false = true := by
            rcases getD_set_self hl with rfl | hl
            · exact dep_listed hcl _ _ hd fun ok hok e he hb => by
                have : ok = oj := Option.some.inj (hok.symm.trans hoj)
                subst this; exact hall e he hb
            · rcases getD_set_self hl with rfl | hl
              · rw [hqi] at hk; cases hk
              · exact dep_listed hcl _ _ hd fun ok hok e he hb => hcl k ok hok hl e he hb
          rw [hin] at key; cases key
      refine wpOp_mono (fun a' w' h3 => ?_) h2
      obtain ⟨hy', ⟨hC', hJ'⟩, H'⟩ := h3
      have hcomm : (listed.setIfInBounds i true).setIfInBounds j true = (listed.setIfInBounds j true).setIfInBounds i true := Array.setIfInBounds_comm _ _ (Ne.symm hji)
      have hJ'' : J (listed.setIfInBounds j true) w' := hJ1 _ _ (by rw [← hcomm]; exact hJ')
      refine ⟨hJ'', ih (listed.setIfInBounds j true) a' w' (closed_set hcl hj) hfree' (ready_mono hr (Ne.symm hji)) hy' (hC' hnd) hJ'' ?_⟩
      rw [← hcomm]
      exact H'
end
end Go.Abs

namespace Go.Abs
open Go Go.RowKit
set_option linter.unusedVariables false

/-- The orders of a drawn region, quiet operations first: 'q': a quiet one; 'c': each of those that are ready (full: it may see all that is there). -/
inductive Qt
  | fin
  | no
  | q (i : Nat) (t : Qt)
  | c (i : Nat) (full : Bool) (t r : Qt)
  | z (id : Nat) (t : Qt)

def Qt.okB (ops : Array Oper) (ql : List Nat) : Qt → Nat → Array Bool → List Nat → Bool → Bool
  | .fin, _, _, rem, e => e && rem.isEmpty
  | .no, _, _, rem, e => !e && rem.isEmpty
  | .q i t, f + 1, listed, rem, e => e && rem.elem i && ql.elem i && Region.free .any ops listed i && t.okB ops ql f (listed.setIfInBounds i true) (Region.ready .any ops (listed.setIfInBounds i true)) true
  | .c i full t r, f + 1, listed, j :: rem, _ => Nat.beq i j && !ql.elem i && (!full || ql.all fun l => !listed.getD l false || depB .any ops ops.size i l) &&
      t.okB ops ql f (listed.setIfInBounds i true) (Region.ready .any ops (listed.setIfInBounds i true)) true && r.okB ops ql (f + 1) listed rem false
  | .z _ t, f, listed, rem, e => t.okB ops ql f listed rem e
  | _, _, _, _, _ => false

def inIds (p : List Nat) (nm : Nm) : Bool := p.elem nm.id
def outIds (p : List Nat) (nm : Nm) : Bool := !p.elem nm.id
/-- What is known by own objects of a list alone. -/
def St.only (s : St) (p : List Nat) : St :=
  { env := s.env.map fun x => (x.1, x.2.keep (inIds p)), heap := (s.heap.filter fun x => p.elem x.1).map fun x => (x.1, x.2.keep (inIds p)) }
/-- What is known by the other ones. -/
def St.hide (s : St) (p : List Nat) : St := match p with
  | [] => s
  | p => { env := s.env.map fun x => (x.1, x.2.keep (outIds p)), heap := (s.heap.filter fun x => !p.elem x.1).map fun x => (x.1, x.2.keep (outIds p)) }
/-- The slots that lead to objects of the list (but for one slot). -/
def protE (p : List Nat) (d : Option Nat) (env : List (Nat × AV)) : List (Nat × AV) → List (Nat × AV)
  | [] => []
  | (t, x) :: r => match look env t with
    | some y => (match (match d with | some d => Nat.beq t d | none => false) || AV.refsB (outIds p) y || !AV.refsB (inIds p) y with
      | true => protE p d env r
      | false => (t, y) :: protE p d env r)
    | none => protE p d env r
def St.back (s' s : St) (p : List Nat) (d : Option Nat) : St := match p with
  | [] => s'
  | p => { env := protE p d s.env s.env ++ s'.env, heap := s'.heap ++ (s.only p).heap }

def qopD (B : Tabs) (n : Nat) (g : Bool) (wrap : AV → AV) (p : List Nat) (s : St) (op : Op) (d : Option Nat) (K : St → Prop) : Prop :=
  match d with
  | some d => (match op with
    | .move x => chk (Nat.blt d n) (aget g s x fun y => K (s.put d (wrap y)))
    | .assign x => chk (Nat.blt d n) (aget g s x fun y => K (s.put d (wrap y)))
    | op => chk (Nat.blt d n) (qop B g (s.only p) op fun y => K (s.put d (wrap y))))
  | none => False

/-- What is known, written out. -/
def forceV (x : AV) (K : AV → Prop) : Prop :=
  match x with
  | .val v => K (.val v)
  | .agg cs => K (.agg cs)
  | .tup cs => K (.tup cs)
  | .ro sz n row => K (.ro sz n row)
  | .ptr cs => K (.ptr cs)
  | .obj id off => K (.obj id off)
  | .sl id n => K (.sl id n)
  | .so id esz off n => K (.so id esz off n)
  | .mp id => K (.mp id)
  | .rp id esz i off => K (.rp id esz i off)
  | .fn f cs => K (.fn f cs)
  | .cond g x => K (.cond g x)
  | .any => K .any
def forceO (o : HO) (K : HO → Prop) : Prop :=
  match o with
  | .cells cs => K (.cells cs)
  | .row e esz n f => K (.row e esz n f)
  | .rows e esz n f => K (.rows e esz n f)
  | .fam D f => K (.fam D f)
  | .mp es => K (.mp es)
def forceE : List (Nat × AV) → (List (Nat × AV) → Prop) → Prop
  | [], K => K []
  | (t, x) :: r, K => forceV x fun x' => forceE r fun r' => K ((t, x') :: r')
def forceH : List (Nat × HO) → (List (Nat × HO) → Prop) → Prop
  | [], K => K []
  | (t, x) :: r, K => forceO x fun x' => forceH r fun r' => K ((t, x') :: r')
def forceS (s : St) (K : St → Prop) : Prop := forceE s.env fun e => forceH s.heap fun h => K ⟨e, h⟩
theorem forceV_spec {x : AV} {K : AV → Prop} (h : forceV x K) : K x := by cases x <;> exact h
theorem forceO_spec {x : HO} {K : HO → Prop} (h : forceO x K) : K x := by cases x <;> exact h
theorem forceE_spec : ∀ {l : List (Nat × AV)} {K : List (Nat × AV) → Prop}, forceE l K → K l
  | [], _, h => h
  | (t, x) :: r, _, h => forceE_spec (l := r) (forceV_spec h)
theorem forceH_spec : ∀ {l : List (Nat × HO)} {K : List (Nat × HO) → Prop}, forceH l K → K l
  | [], _, h => h
  | (t, x) :: r, _, h => forceH_spec (l := r) (forceO_spec h)
theorem forceS_spec {s : St} {K : St → Prop} (h : forceS s K) : K s := forceH_spec (l := s.heap) (forceE_spec (l := s.env) h)

def qT (B : Tabs) (n : Nat) (ops : List Oper) (p : List Nat) (K : St → Prop) : Qt → St → Prop
  | .fin, s => K s
  | .no, s => True
  | .q i t, s => (match ops[i]? with
    | some o => (match o.guard with
      | none => qopD B n true (fun y => y) p s o.op o.dst fun s' => qT B n ops p K t s'
      | some (k, b) => guardB ops s k b fun g => qopD B n g (fun y => .cond g y) p s o.op o.dst fun s' => qT B n ops p K t s')
    | none => False)
  | .c i full t r, s => (match ops[i]? with
    | some o => (match full with
      | true => aops B n ops [o] s fun s' => forceS s' fun s' => qT B n ops p K t s'
      | false => forceS (s.hide p) fun s1 => aops B n ops [o] s1 fun s' => chk (p.all fun k => (look s'.heap k).isNone) (forceS (s'.back s p o.dst) fun s' => qT B n ops p K t s'))
    | none => False) ∧ qT B n ops p K r s
  | .z id t, s => ∃ o, subHO (look s.heap id) o ∧ domSame (look s.heap id) o ∧ o.pureP ∧ forceS (s.frz id o) fun s' => qT B n ops p K t s'

theorem filterIds {α : Type} (p : Nat → Bool) (l : List (Nat × α)) (t : Nat) : look (l.filter fun x => p x.1) t = if p t = true then look l t else none := look_filterP p l t

theorem has_part {s : List (Nat × HO)} {k : Nm → Bool} {p : Nat → Bool} {nm : Nm} {y : HO} : Has ((s.filter fun x => p x.1).map fun x => (x.1, x.2.keep k)) nm y ↔ p nm.id = true ∧ ∃ y0, Has s nm y0 ∧ y = y0.keep k := by
  unfold Has
  rw [look_map (fun o : HO => o.keep k), look_filterP p]
  by_cases e : p nm.id = true
  · simp only [e, if_true, true_and]
    constructor
    · rintro ⟨x, h1, h2, h3⟩
      obtain ⟨x0, g1, rfl⟩ := Option.map_eq_some_iff.1 h1
      rw [keep_at] at h2
      obtain ⟨y0, g2, rfl⟩ := Option.map_eq_some_iff.1 h2
      exact ⟨y0, ⟨x0, g1, g2, (keep_in _ _ _).1 h3⟩, rfl⟩
    · rintro ⟨y0, ⟨x0, h1, h2, h3⟩, rfl⟩
      exact ⟨_, by rw [h1]; rfl, by rw [keep_at, h2]; rfl, (keep_in _ _ _).2 h3⟩
  · simp [e]

def part (q : Nat → Bool) (τ : Nm → Option Value) : Nm → Option Value := fun nm => if q nm.id = true then τ nm else none
theorem part_some {q : Nat → Bool} {τ : Nm → Option Value} {nm : Nm} {u : Value} : part q τ nm = some u ↔ q nm.id = true ∧ τ nm = some u := by
  unfold part; split <;> simp_all

/-- A part of what is known, under other surroundings. -/
theorem RelA.part {cx τ F s a w} (h : RelA cx τ F s a w) (q : Nat → Bool) (cx' : Cx) (hn : cx'.n = cx.n) (hgx : GVok cx'.F cx'.w ∧ ∀ k, cx'.F k → ¬ cx'.X k) (hk : Keeps cx'.X cx'.w w) (hsub : ∀ k, F k → cx'.F k ∨ cx'.w.heap.size ≤ k ∨ cx'.X k) (hsup : ∀ k, cx'.F k → F k) (htl : ∀ nm v b, q nm.id = true → τ nm = some v → hblk v = some b → cx'.w.heap.size ≤ b ∨ cx'.X b) (h0 : cx'.τ0 = cx.τ0) (hds : cx'.ds = cx.ds := by rfl) :
    RelA cx' (Abs.part q τ) F { env := s.env.map fun x => (x.1, x.2.keep fun nm => q nm.id), heap := (s.heap.filter fun x => q x.1).map fun x => (x.1, x.2.keep fun nm => q nm.id) } a w := by
  have hkp : ∀ id, (fun nm : Nm => q nm.id) id = true → Abs.part q τ id = τ id := fun id hid => by unfold Abs.part; rw [if_pos hid]
  refine ⟨⟨hk, h.wr.fz, fun k nm v hF hv => h.wr.fne k nm v hF (part_some.1 hv).2, hsub, hsup, fun nm v b hv hb => ⟨htl nm v b (part_some.1 hv).1 (part_some.1 hv).2 hb, (h.wr.tlt nm v b (part_some.1 hv).2 hb).2⟩, fun nm nm' v v' b hv hv' => h.wr.inj nm nm' v v' b (part_some.1 hv).2 (part_some.1 hv').2, fun nm o ho => ?_, fun nm v hv => ?_, fun nm v ho hv => by rw [h0]; exact h.wr.old nm v ho (part_some.1 hv).2, ⟨by rw [hn]; exact h.wr.cxn.1, hgx⟩⟩, by rw [hn]; exact h.size, h.defers.trans hds.symm, fun t x ht => ?_⟩
  · obtain ⟨g1, y0, g2, rfl⟩ := has_part.1 ho
    obtain ⟨v, h1, h2⟩ := h.wr.obj nm y0 g2
    exact ⟨v, part_some.2 ⟨g1, h1⟩, keep_hok hkp h2⟩
  · obtain ⟨g1, g2⟩ := part_some.1 hv
    obtain ⟨o, ho⟩ := h.wr.dom nm v g2
    exact ⟨_, has_part.2 ⟨g1, o, ho, rfl⟩⟩
  · rw [look_map (fun x : AV => x.keep fun nm => q nm.id)] at ht
    obtain ⟨y, hy, rfl⟩ := Option.map_eq_some_iff.1 ht
    exact ⟨by rw [hn]; exact (h.env t y hy).1, keep_rep hkp (h.env t y hy).2⟩

/-- The blocks that a quiet operation may lean on. -/
def stay (F : Nat → Prop) (τ : Nm → Option Value) (p : List Nat) (b : Nat) : Prop := F b ∨ ∃ nm u, p.elem nm.id = true ∧ τ nm = some u ∧ hblk u = some b

theorem qopD_sound (B : Tabs) {cx : Cx} (hP : cx.P = B.P) {s : St} {o : Oper} {K : St → Prop} {g : Bool} {wrap : AV → AV} {p : List Nat} (h : qopD B cx.n g wrap p s o.op o.dst K) (hwrap : g = true → ∀ F w τ y v, Rep F w τ y v → Rep F w τ (wrap y) v)
    (hfalse : g = false → ∀ F w τ y, Rep F w τ (wrap y) undef) {τ F a w} (hr : RelA cx τ F s a w) :
    ∃ s' v, K s' ∧ RelA cx τ F s' (a.put o.dst v) w ∧ (g = true → ∀ w', (∀ b, stay F τ p b → w'.heap[b]? = w.heap[b]?) → (execOp a.eval o).run B.P w' = .ok (.value v) w') ∧ (g = false → v = undef) := by
  unfold qopD at h
  split at h
  · rename_i d hdst
    have reg : ∀ x, (∀ w', (execOp a.eval o).run B.P w' = .ok (.value (a.eval x)) w') → chk (Nat.blt d cx.n) (aget g s x fun y => K (s.put d (wrap y))) →
        ∃ s' v, K s' ∧ RelA cx τ F s' (a.put o.dst v) w ∧ (g = true → ∀ w', (∀ b, stay F τ p b → w'.heap[b]? = w.heap[b]?) → (execOp a.eval o).run B.P w' = .ok (.value v) w') ∧ (g = false → v = undef) := by
      intro x hx h
      obtain ⟨hd, h⟩ := chk_spec h
      have hd := blt_lt hd
      obtain ⟨y, hy, hs⟩ := aget_sound h
      cases hg : g with
      | true => exact ⟨_, a.eval x, hy, by rw [hdst]; exact hr.put d _ _ (hwrap hg _ _ _ _ _ (hs F τ w cx.n a hg hr.env)) hd, fun _ w' _ => hx w', fun h => by cases h⟩
      | false => exact ⟨_, undef, hy, by rw [hdst]; exact hr.put d _ undef (hfalse hg _ _ _ _) hd, fun h => by (cases h), fun _ => rfl⟩
    split at h
    · rename_i x hop
      exact reg x (fun w' => by simp [execOp, hop]) h
    · rename_i x hop
      exact reg x (fun w' => by simp [execOp, hop]) h
    · obtain ⟨hd, h⟩ := chk_spec h
      have hd := blt_lt hd
      obtain ⟨y, hy, hs⟩ := qop_sound B h
      cases hg : g with
      | true =>
        have hpart := hr.part (fun k => p.elem k) cx rfl hr.wr.cxn.2 hr.wr.keeps hr.wr.fsub hr.wr.fsup (fun nm v b _ hv hb => (hr.wr.tlt nm v b hv hb).1) rfl
        obtain ⟨v, h1, h2⟩ := hs cx _ F w a hg hpart
        have h1' : Rep F w τ y v := h1.mono (fun _ h => h) (fun _ _ => rfl) (fun id u hu => (part_some.1 hu).2)
        refine ⟨_, v, hy, by rw [hdst]; exact hr.put d _ v (hwrap hg _ _ _ _ _ h1') hd, fun _ w' hw' => h2 o rfl w' fun b hb => hw' b ?_, fun h => by cases h⟩
        rcases hb with hb | ⟨nm, u, hu, hb⟩
        · exact .inl hb
        · exact .inr ⟨nm, u, (part_some.1 hu).1, (part_some.1 hu).2, hb⟩
      | false => exact ⟨_, undef, hy, by rw [hdst]; exact hr.put d _ undef (hfalse hg _ _ _ _) hd, fun h => by (cases h), fun _ => rfl⟩
  · exact h.elim

/-- One operation, what it writes of old set apart. -/
def cxP (cx : Cx) (τ : Nm → Option Value) (F : Nat → Prop) (p : List Nat) (w : World) : Cx := { cx with F := F, X := fun b => ∃ nm u, p.elem nm.id = false ∧ τ nm = some u ∧ hblk u = some b, w := w }

theorem hide_rel {cx τ F s a w} (h : RelA cx τ F s a w) (p : List Nat) : RelA (cxP cx τ F p w) (part (fun k => !p.elem k) τ) F (s.hide p) a w := by
  have key := h.part (fun k => !p.elem k) (cxP cx τ F p w) rfl ⟨h.wr.gv, fun k hk ⟨nm, u, _, q1, q2⟩ => h.wr.fne k nm u hk q1 q2⟩ (Keeps.refl _ _) (fun k hk => .inl hk) (fun k hk => hk) (fun nm v b hq hv hb => .inr ⟨nm, v, by simpa using hq, hv, hb⟩) rfl
  cases p with
  | nil =>
    -- nothing is hidden
    have e : part (fun k => !([] : List Nat).elem k) τ = τ := by funext nm; unfold part; rfl
    rw [e]
    refine ⟨⟨Keeps.refl _ _, h.wr.fz, h.wr.fne, fun k hk => .inl hk, fun k hk => hk, fun nm v b hv hb => ⟨.inr ⟨nm, v, rfl, hv, hb⟩, (h.wr.tlt nm v b hv hb).2⟩, h.wr.inj, h.wr.obj, h.wr.dom, h.wr.old, ⟨h.wr.cxn.1, h.wr.gv, fun k hk ⟨nm, u, _, q1, q2⟩ => h.wr.fne k nm u hk q1 q2⟩⟩, h.size, h.defers, h.env⟩
  | cons i r => exact key

theorem stays {cx τ F s a w} (h : RelA cx τ F s a w) {p : List Nat} {w' : World} (hk : Keeps (cxP cx τ F p w).X w w') : ∀ b, stay F τ p b → w'.heap[b]? = w.heap[b]? := fun b hb => by
  rcases hb with hb | ⟨nm, u, hp, hu, hb⟩
  · exact hk.block b (h.wr.fz b hb) fun ⟨nm', u', _, hu', hb'⟩ => h.wr.fne b nm' u' hb hu' hb'
  · refine hk.block b (h.wr.tlt nm u b hu hb).2 fun ⟨nm', u', hp', hu', hb'⟩ => ?_
    have := h.wr.inj nm nm' u u' b hu hu' hb hb'
    rw [this, hp'] at hp; cases hp

theorem protE_at {p : List Nat} {d : Option Nat} {env : List (Nat × AV)} : ∀ {l : List (Nat × AV)} {t : Nat} {x : AV}, look (protE p d env l) t = some x → look env t = some x ∧ d ≠ some t ∧ AV.refsB (inIds p) x = true
  | [], t, x, h => by cases h
  | (k, z) :: r, t, x, h => by
    simp only [protE] at h
    split at h
    · rename_i y hy
      split at h
      · exact protE_at h
      · rename_i hb
        rw [look_cons] at h
        split at h
        · rename_i e; subst e
          injection h with h; subst h
          simp only [Bool.or_eq_false_iff, Bool.not_eq_false'] at hb
          refine ⟨hy, fun e => ?_, hb.2⟩
          rw [e] at hb
          simp at hb
        · exact protE_at h
    · exact protE_at h

theorem back_rel {cx τ F s a w} (h : RelA cx τ F s a w) {p : List Nat} {s' : St} {a' : Act} {w' : World} {τ' : Nm → Option Value} {F' : Nat → Prop} (h' : RelA (cxP cx τ F p w) τ' F' s' a' w') (hno : (p.all fun k => (look s'.heap k).isNone) = true) {d : Option Nat} (hsame : ∀ t, d ≠ some t → a'.tmps.getD t undef = a.tmps.getD t undef) :
    ∃ τ2 F2, RelA cx τ2 F2 (s'.back s p d) a' w' ∧ (∀ b, stay F τ p b → stay F2 τ2 p b) := by
  have hk := h'.wr.keeps
  have hst := stays h hk
  have hX : ∀ b, (cxP cx τ F p w).X b → cx.w.heap.size ≤ b ∨ cx.X b := fun b ⟨nm, u, _, hu, hb⟩ => (h.wr.tlt nm u b hu hb).1
  have keepsC : Keeps cx.X cx.w w' := by
    refine ⟨hk.os.trans h.wr.keeps.os, hk.tape.trans h.wr.keeps.tape, hk.output.trans h.wr.keeps.output, Nat.le_trans h.wr.keeps.size hk.size, fun k hlt hx => ?_⟩
    rw [hk.block k (Nat.lt_of_lt_of_le hlt h.wr.keeps.size) fun hx' => (hX k hx').elim (fun h => by omega) hx]
    exact h.wr.keeps.block k hlt hx
  have fsubC : ∀ k, F' k → cx.F k ∨ cx.w.heap.size ≤ k ∨ cx.X k := fun k hF => by
    rcases h'.wr.fsub k hF with q | q | q
    · exact h.wr.fsub k q
    · exact .inr (.inl (Nat.le_trans h.wr.keeps.size q))
    · exact .inr (hX k q)
  have tltC : ∀ nm v b, τ' nm = some v → hblk v = some b → (cx.w.heap.size ≤ b ∨ cx.X b) ∧ b < w'.heap.size := fun nm v b hv hb => by
    obtain ⟨q1, q2⟩ := h'.wr.tlt nm v b hv hb
    refine ⟨?_, q2⟩
    rcases q1 with q1 | q1
    · exact .inl (Nat.le_trans h.wr.keeps.size q1)
    · exact hX b q1
  cases p with
  | nil =>
    exact ⟨τ', F', ⟨⟨keepsC, h'.wr.fz, h'.wr.fne, fsubC, fun k hF => h'.wr.fsup k (h.wr.fsup k hF), tltC, h'.wr.inj, h'.wr.obj, h'.wr.dom, h'.wr.old, h.wr.cxn⟩, h'.size, h'.defers, h'.env⟩, fun b hb => by
      rcases hb with hb | ⟨nm, u, hp, _⟩
      · exact .inl (h'.wr.fsup b hb)
      · cases hp⟩
  | cons i r =>
    generalize hpp : i :: r = p at *
    have hback : s'.back s p d = { env := protE p d s.env s.env ++ s'.env, heap := s'.heap ++ (s.only p).heap } := by rw [← hpp]; rfl
    rw [hback]
    have notin : ∀ nm o, Has s'.heap nm o → p.elem nm.id = false := fun nm o ho => by
      cases hc : p.elem nm.id with
      | false => rfl
      | true =>
        rw [List.elem_eq_mem, decide_eq_true_iff] at hc
        have := List.all_eq_true.1 hno nm.id hc
        have h2 := ho.isSome
        cases hl : look s'.heap nm.id with
        | none => rw [hl] at h2; cases h2
        | some x => rw [hl] at this; cases this
    let τ2 : Nm → Option Value := fun nm => if p.elem nm.id = true then τ nm else τ' nm
    have t2p : ∀ nm, p.elem nm.id = true → τ2 nm = τ nm := fun nm hp => if_pos hp
    have t2n : ∀ nm u, τ' nm = some u → τ2 nm = some u ∧ p.elem nm.id = false := fun nm u hu => by
      obtain ⟨o, ho⟩ := h'.wr.dom nm u hu
      have := notin nm o ho
      refine ⟨?_, this⟩
      show (if p.elem nm.id = true then τ nm else τ' nm) = some u
      rw [this]; exact hu
    have kinds : ∀ nm u, τ2 nm = some u → (p.elem nm.id = true ∧ τ nm = some u) ∨ (p.elem nm.id = false ∧ τ' nm = some u) := fun nm u hu => by
      have hu : (if p.elem nm.id = true then τ nm else τ' nm) = some u := hu
      split at hu
      · exact .inl ⟨by assumption, hu⟩
      · rename_i hp; exact .inr ⟨by simpa using hp, hu⟩
    have apart : ∀ nm u b nm' u', p.elem nm.id = true → τ nm = some u → hblk u = some b → τ' nm' = some u' → hblk u' = some b → False := fun nm u b nm' u' hp hu hb hu' hb' => by
      rcases (h'.wr.tlt nm' u' b hu' hb').1 with q | ⟨nm2, u2, hp2, hu2, hb2⟩
      · have := (h.wr.tlt nm u b hu hb).2
        have q : w.heap.size ≤ b := q
        omega
      · have := h.wr.inj nm nm2 u u2 b hu hu2 hb hb2
        rw [this, hp2] at hp; cases hp
    refine ⟨τ2, F', ⟨⟨keepsC, h'.wr.fz, fun k nm u hF hu hb => ?_, fsubC, fun k hF => h'.wr.fsup k (h.wr.fsup k hF), fun nm u b hu hb => ?_, fun nm nm' u u' b hu hu' hb hb' => ?_, fun nm o ho => ?_, fun nm u hu => ?_, fun nm u ho hu => ?_, h.wr.cxn⟩, h'.size, h'.defers, fun t x ht => ?_⟩, fun b hb => ?_⟩
    · rcases kinds nm u hu with ⟨hp, hu⟩ | ⟨_, hu⟩
      · rcases h'.wr.fsub k hF with q | q | ⟨nm2, u2, hp2, hu2, hb2⟩
        · exact h.wr.fne k nm u q hu hb
        · have := (h.wr.tlt nm u k hu hb).2
          have q : w.heap.size ≤ k := q
          omega
        · have := h.wr.inj nm nm2 u u2 k hu hu2 hb hb2
          rw [this, hp2] at hp; cases hp
      · exact h'.wr.fne k nm u hF hu hb
    · rcases kinds nm u hu with ⟨hp, hu⟩ | ⟨_, hu⟩
      · exact ⟨(h.wr.tlt nm u b hu hb).1, Nat.lt_of_lt_of_le (h.wr.tlt nm u b hu hb).2 hk.size⟩
      · exact tltC nm u b hu hb
    · rcases kinds nm u hu with ⟨hp, hu⟩ | ⟨hp, hu⟩ <;> rcases kinds nm' u' hu' with ⟨hp', hu'⟩ | ⟨hp', hu'⟩
      · exact h.wr.inj nm nm' u u' b hu hu' hb hb'
      · exact (apart nm u b nm' u' hp hu hb hu' hb').elim
      · exact (apart nm' u' b nm u hp' hu' hb' hu hb).elim
      · exact h'.wr.inj nm nm' u u' b hu hu' hb hb'
    · obtain ⟨x, g1, g2, g3⟩ := ho
      rw [look_append] at g1
      cases hl : look s'.heap nm.id with
      | some y =>
        rw [hl] at g1; simp only [Option.some.injEq] at g1; subst g1
        have hh : Has s'.heap nm o := ⟨y, hl, g2, g3⟩
        obtain ⟨v, q1, q2⟩ := h'.wr.obj nm o hh
        exact ⟨v, (t2n nm v q1).1, q2.mono (fun _ h => h) (fun _ _ => rfl) (fun id u hu => (t2n id u hu).1) (fun _ _ => rfl)⟩
      | none =>
        rw [hl] at g1
        have hh : Has (s.only p).heap nm o := ⟨x, g1, g2, g3⟩
        obtain ⟨q1, y0, q2, rfl⟩ := (has_part (k := inIds p) (p := fun k => p.elem k)).1 hh
        obtain ⟨v, r1, r2⟩ := h.wr.obj nm y0 q2
        refine ⟨v, by rw [t2p nm q1]; exact r1, ?_⟩
        have r3 : HOk F w τ2 (y0.keep (inIds p)) v := keep_hok2 (fun id hid u hu => by rw [t2p id hid]; exact hu) r2
        exact r3.mono (h'.wr.fsup) (fun k hF => hst k (.inl hF)) (fun _ _ h => h) fun b hb => hst b (.inr ⟨nm, v, q1, r1, hb⟩)
    · rcases kinds nm u hu with ⟨hp, hu⟩ | ⟨hp, hu⟩
      · obtain ⟨o, ho⟩ := h.wr.dom nm u hu
        obtain ⟨x, g1, g2, g3⟩ := (has_part (k := inIds p) (p := fun k => p.elem k)).2 ⟨hp, o, ho, rfl⟩
        refine ⟨_, x, ?_, g2, g3⟩
        rw [look_append]
        have : look s'.heap nm.id = none := by
          cases hl : look s'.heap nm.id with
          | none => rfl
          | some y =>
            rw [List.elem_eq_mem, decide_eq_true_iff] at hp
            have := List.all_eq_true.1 hno nm.id hp
            rw [hl] at this; cases this
        rw [this]; exact g1
      · obtain ⟨o, x, g1, g2, g3⟩ := h'.wr.dom nm u hu
        refine ⟨o, x, ?_, g2, g3⟩
        rw [look_append, g1]
    · rcases kinds nm u hu with ⟨hp, hu⟩ | ⟨hp, hu⟩
      · exact h.wr.old nm u ho hu
      · exact h'.wr.old nm u ho hu
    · rw [look_append] at ht
      cases hl : look (protE p d s.env s.env) t with
      | some y =>
        rw [hl] at ht; simp only [Option.some.injEq] at ht; subst ht
        obtain ⟨q1, q2, q3⟩ := protE_at hl
        obtain ⟨r1, r2⟩ := h.env t y q1
        refine ⟨r1, ?_⟩
        rw [hsame t q2]
        have r3 : Rep F w τ2 y _ := r2.refs (p := fun nm => inIds p nm = true) (fun nm hnm => t2p nm hnm) (refsP_of (fun _ h => h) q3)
        exact r3.mono h'.wr.fsup (fun k hF => hst k (.inl hF)) (fun _ _ h => h)
      | none =>
        rw [hl] at ht
        obtain ⟨r1, r2⟩ := h'.env t x ht
        exact ⟨r1, r2.mono (fun _ h => h) (fun _ _ => rfl) (fun id u hu => (t2n id u hu).1)⟩
    · rcases hb with hb | ⟨nm, u, hp, hu, hb⟩
      · exact .inl (h'.wr.fsup b hb)
      · exact .inr ⟨nm, u, hp, by rw [t2p nm hp]; exact hu, hb⟩

structure Past where
  i : Nat
  R : Nat → Prop
  w : World
def JL (ops : Array Oper) (ql : List Nat) (L : List Past) (l : Array Bool) (w : World) : Prop := ∀ x ∈ L, noDep .any ops (fun k => ql.elem k) x.i l → ∀ b, x.R b → w.heap[b]? = x.w.heap[b]?

theorem noDep_set {ops : Array Oper} {qs : Nat → Bool} {i j : Nat} {l : Array Bool} (hq : qs i = true) : noDep .any ops qs j (l.setIfInBounds i true) ↔ noDep .any ops qs j l := by
  constructor
  · intro h k hk hl; exact h k hk (getD_set_true hl)
  · intro h k hk hl
    rcases getD_set_self hl with rfl | hl
    · rw [hq] at hk; cases hk
    · exact h k hk hl

theorem qT_sound (B : Tabs) {cx : Cx} (hP : cx.P = B.P) {ops : List Oper} {ql p : List Nat} {K : St → Prop} {Q : Exit → Act → World → Prop} (hQ : ∀ s' a' w', K s' → Rel cx s' a' w' → Q .normal a' w') (hQp : ∀ c a w, ¬ Q (.panic c) a w)
    (hsel : Region.noSelect ops.toArray = true) :
    ∀ (t : Qt) {f : Nat} {listed : Array Bool} {rem : List Nat} {e : Bool}, t.okB ops.toArray ql f listed rem e = true → Closed .any ops.toArray listed → (∀ k ∈ rem, k ∈ Region.ready .any ops.toArray listed) → ∀ {s : St}, qT B cx.n ops p K t s → ∀ {τ F} {a : Act} {w : World}, RelA cx τ F s a w →
      ∀ (L : List Past), (∀ x ∈ L, x.i ∈ ql ∧ listed.getD x.i false = true ∧ ∀ b, x.R b → stay F τ p b) → JL ops.toArray ql L listed w →
      (e = true → rem = Region.ready .any ops.toArray listed → wpAnyJ cx.P .any ops.toArray Q (JL ops.toArray ql L) f listed a w) ∧
      (∀ i f', i ∈ rem → f = f' + 1 → (e = true → rem = Region.ready .any ops.toArray listed) → wpOp cx.P ops.toArray Q i (fun a' w' => JL ops.toArray ql L (listed.setIfInBounds i true) w' ∧ wpAnyJ cx.P .any ops.toArray Q (JL ops.toArray ql L) f' (listed.setIfInBounds i true) a' w') a w)
  | .fin, f, listed, rem, e, hok, hcl, hsub, s, h, τ, F, a, w, hr, L, hL, hJ => by
    simp only [Qt.okB, Bool.and_eq_true, List.isEmpty_iff] at hok
    obtain ⟨_, rfl⟩ := hok
    refine ⟨fun _ hrem => ?_, fun i f' hi => absurd hi (by simp)⟩
    cases f with
    | zero => exact ⟨hrem.symm, hQ _ _ _ h ⟨τ, F, hr⟩⟩
    | succ f => exact ⟨fun _ => hQ _ _ _ h ⟨τ, F, hr⟩, fun i hi => absurd hi (by rw [← hrem]; simp)⟩
  | .no, f, listed, rem, e, hok, hcl, hsub, s, h, τ, F, a, w, hr, L, hL, hJ => by
    simp only [Qt.okB, Bool.and_eq_true, List.isEmpty_iff, Bool.not_eq_true'] at hok
    obtain ⟨he, rfl⟩ := hok
    exact ⟨fun h1 => absurd h1 (by rw [he]; simp), fun i f' hi => absurd hi (by simp)⟩
  | .q i t, 0, listed, rem, e, hok, hcl, hsub, s, h, τ, F, a, w, hr, L, hL, hJ => by simp [Qt.okB] at hok
  | .q i t, f + 1, listed, rem, e, hok, hcl, hsub, s, h, τ, F, a, w, hr, L, hL, hJ => by
    simp only [Qt.okB, Bool.and_eq_true] at hok
    obtain ⟨⟨⟨⟨he, hrem⟩, hql⟩, hfree⟩, hok⟩ := hok
    have hqi : (fun k => ql.elem k) i = true := hql
    have key : rem = Region.ready .any ops.toArray listed → wpAnyJ cx.P .any ops.toArray Q (JL ops.toArray ql L) (f + 1) listed a w := by
      intro hre
      have hir : i ∈ Region.ready .any ops.toArray listed := by rw [← hre]; rw [List.elem_eq_mem, decide_eq_true_iff] at hrem; exact hrem
      unfold qT at h
      cases ho : ops[i]? with
      | none => rw [ho] at h; exact h.elim
      | some o =>
        rw [ho] at h
        simp only at h
        have ho' : ops.toArray[i]? = some o := by simpa using ho
        have main : ∃ s' v, qT B cx.n ops p K t s' ∧ RelA cx τ F s' (a.put o.dst v) w ∧ YieldsC cx.P ops.toArray (fun w' => ∀ b, stay F τ p b → w'.heap[b]? = w.heap[b]?) o v a := by
          cases hg : o.guard with
          | none =>
            rw [hg] at h
            obtain ⟨s', v, h1, h2, h3, _⟩ := qopD_sound B hP h (fun _ _ _ _ _ _ h => h) (fun h => by cases h) hr
            exact ⟨s', v, h1, h2, .inl ⟨by unfold Region.wanted; rw [hg], by rw [hP]; exact h3 rfl⟩⟩
          | some kb =>
            obtain ⟨k, b⟩ := kb
            rw [hg] at h
            obtain ⟨g, hG, hw⟩ := wanted_guard hg h hr.env
            obtain ⟨s', v, h1, h2, h3, h4⟩ := qopD_sound B hP hG (fun hg _ _ _ _ _ h => by subst hg; exact .condT _ _ _ h) (fun hg _ _ _ _ => by subst hg; exact .condF _ _) hr
            refine ⟨s', v, h1, h2, ?_⟩
            cases g with
            | true => exact .inl ⟨hw, by rw [hP]; exact h3 rfl⟩
            | false => exact .inr ⟨hw, h4 rfl⟩
        obtain ⟨s', v, h1, h2, hy⟩ := main
        let x : Past := ⟨i, stay F τ p, w⟩
        have hin : (listed.setIfInBounds i true).getD i false = true := by
          have hun := (mem_ready.1 hir).1
          have hlt : i < listed.size := by
            rcases Nat.lt_or_ge i listed.size with h' | h'
            · exact h'
            · simp [Array.getElem?_eq_none h'] at hun
          simp [hlt]
        have IH := (qT_sound B hP hQ hQp hsel t hok (closed_set hcl hir) (fun k hk => hk) h1 h2 (x :: L) (fun y hy => by
          rcases List.mem_cons.1 hy with rfl | hy
          · exact ⟨by rw [List.elem_eq_mem, decide_eq_true_iff] at hql; exact hql, hin, fun b hb => hb⟩
          · exact ⟨(hL y hy).1, getD_set_true (hL y hy).2.1, (hL y hy).2.2⟩) (fun y hy hnd b hb => by
          rcases List.mem_cons.1 hy with rfl | hy
          · rfl
          · exact hJ y hy ((noDep_set hqi).1 hnd) b hb)).1 rfl rfl
        refine wpAnyJ_first (qs := fun k => ql.elem k) (C := fun w' => ∀ b, stay F τ p b → w'.heap[b]? = w.heap[b]?) ho' hqi (Region.noSelect_spec hsel) (fun c a w h => absurd h (hQp _ _ _)) (fun l w' h y hy hnd => h y hy ((noDep_set hqi).2 hnd)) (fun l w' h y hy hnd => h y hy ((noDep_set hqi).1 hnd)) f listed a w hcl (Region.free_spec ho' hfree) hir hy (fun b _ => rfl) hJ ?_
        exact wpAnyJ_mono (fun l w' h => ⟨fun hnd => h x (List.mem_cons_self ..) hnd, fun y hy => h y (List.mem_cons_of_mem _ hy)⟩) _ _ _ _ IH
    refine ⟨fun _ => key, fun i' f' hi' hf hre => ?_⟩
    obtain rfl : f = f' := by omega
    exact (key (hre he)).2 i' (by rw [← hre he]; exact hi')
  | .z id t, f, listed, rem, e, hok, hcl, hsub, s, h, τ, F, a, w, hr, L, hL, hJ => by
    unfold qT at h
    obtain ⟨o, h1, h2, h3, h4⟩ := h
    have h4 := forceS_spec h4
    obtain ⟨τ', F', hr', hF, ht⟩ := hr.freezeW h1 h2 h3
    refine qT_sound B hP hQ hQp hsel t (by unfold Qt.okB at hok; exact hok) hcl hsub h4 hr' L (fun x hx => ⟨(hL x hx).1, (hL x hx).2.1, fun b hb => ?_⟩) hJ
    rcases (hL x hx).2.2 b hb with q | ⟨nm, u, q1, q2, q3⟩
    · exact .inl (hF b q)
    · rcases ht nm u q2 with q | q
      · exact .inr ⟨nm, u, q1, q, q3⟩
      · exact .inl (q b q3)
  | .c i full t r, 0, listed, rem, e, hok, hcl, hsub, s, h, τ, F, a, w, hr, L, hL, hJ => by simp [Qt.okB] at hok
  | .c i full t r, f + 1, listed, [], e, hok, hcl, hsub, s, h, τ, F, a, w, hr, L, hL, hJ => by simp [Qt.okB] at hok
  | .c i full t r, f + 1, listed, j :: rem, e, hok, hcl, hsub, s, h, τ, F, a, w, hr, L, hL, hJ => by
    simp only [Qt.okB, Bool.and_eq_true, Bool.not_eq_true'] at hok
    obtain ⟨⟨⟨⟨hij, hnq⟩, hfull⟩, hok1⟩, hok2⟩ := hok
    have hij := Nat.eq_of_beq_eq_true hij
    subst hij
    unfold qT at h
    obtain ⟨h1, h2⟩ := h
    have hir := hsub i (List.mem_cons_self ..)
    have hin : (listed.setIfInBounds i true).getD i false = true := by
      have hun := (mem_ready.1 hir).1
      have hlt : i < listed.size := by
        rcases Nat.lt_or_ge i listed.size with h' | h'
        · exact h'
        · simp [Array.getElem?_eq_none h'] at hun
      simp [hlt]
    have hmono : ∀ (x : Nat) (l : Array Bool) (k : Nat), noDep .any ops.toArray (fun k => ql.elem k) x (l.setIfInBounds k true) → noDep .any ops.toArray (fun k => ql.elem k) x l := fun x l k h m hm hl => h m hm (getD_set_true hl)
    have head : wpOp cx.P ops.toArray Q i (fun a' w' => JL ops.toArray ql L (listed.setIfInBounds i true) w' ∧ wpAnyJ cx.P .any ops.toArray Q (JL ops.toArray ql L) f (listed.setIfInBounds i true) a' w') a w := by
      cases ho : ops[i]? with
      | none => rw [ho] at h1; exact h1.elim
      | some o =>
        rw [ho] at h1
        simp only at h1
        have ho' : ops.toArray[i]? = some o := by simpa using ho
        cases full with
        | true =>
          simp only at h1
          refine one_sound B hP ho h1 ⟨τ, F, hr⟩ fun s' a' w' hK hr' => ?_
          obtain ⟨τ', F', hr'⟩ := hr'
          have hK := forceS_spec hK
          have IH := (qT_sound B hP hQ hQp hsel t hok1 (closed_set hcl hir) (fun k hk => hk) hK hr' [] (fun x hx => by cases hx) (fun x hx => by cases hx)).1 rfl rfl
          let D : Array Bool → Prop := fun l => ∀ x ∈ L, ¬ noDep .any ops.toArray (fun k => ql.elem k) x.i l
          have hD : D (listed.setIfInBounds i true) := fun x hx hnd => by
            have h3 := hnd i hnq hin
            have h4 := List.all_eq_true.1 (by simpa using hfull : ql.all (fun l => !listed.getD l false || depB .any ops.toArray ops.toArray.size i l) = true) x.i (hL x hx).1
            rw [(hL x hx).2.1] at h4
            simp only [Bool.not_true, Bool.false_or] at h4
            rw [h3] at h4; cases h4
          exact ⟨fun x hx hnd => absurd hnd (hD x hx), wpAnyJ_dead (D := D) (fun l k hl x hx hnd => hl x hx (hmono _ _ _ hnd)) (fun l w hl x hx hnd => absurd hnd (hl x hx)) _ _ _ _ hD IH⟩
        | false =>
          simp only at h1
          have h1 := forceS_spec h1
          have hr0 := hide_rel hr p
          have W := one_sound B (cx := cxP cx τ F p w) hP ho h1 ⟨_, _, hr0⟩ (Q := Q) (next := fun a' w' => ∃ s', chk (p.all fun k => (look s'.heap k).isNone) (forceS (s'.back s p o.dst) fun s' => qT B cx.n ops p K t s') ∧ Rel (cxP cx τ F p w) s' a' w') fun s' a' w' hK hr' => ⟨s', hK, hr'⟩
          refine wpOp_mono (fun a' w' ⟨hsame, s', hK, hr'⟩ => ?_) (wpOp_same ho' W)
          obtain ⟨τ', F', hr'⟩ := hr'
          obtain ⟨hno, hqt⟩ := chk_spec hK
          have hqt := forceS_spec hqt
          obtain ⟨τ2, F2, hr2, hst2⟩ := back_rel hr hr' hno hsame
          have hJ' : JL ops.toArray ql L (listed.setIfInBounds i true) w' := fun x hx hnd b hb => by
            rw [stays hr hr'.wr.keeps b ((hL x hx).2.2 b hb)]
            exact hJ x hx (hmono _ _ _ hnd) b hb
          exact ⟨hJ', (qT_sound B hP hQ hQp hsel t hok1 (closed_set hcl hir) (fun k hk => hk) hqt hr2 L (fun x hx => ⟨(hL x hx).1, getD_set_true (hL x hx).2.1, fun b hb => hst2 b ((hL x hx).2.2 b hb)⟩) hJ').1 rfl rfl⟩
    have key : ∀ i' f', i' ∈ i :: rem → f + 1 = f' + 1 → wpOp cx.P ops.toArray Q i' (fun a' w' => JL ops.toArray ql L (listed.setIfInBounds i' true) w' ∧ wpAnyJ cx.P .any ops.toArray Q (JL ops.toArray ql L) f' (listed.setIfInBounds i' true) a' w') a w := by
      intro i' f' hi' hf
      obtain rfl : f = f' := by omega
      rcases List.mem_cons.1 hi' with rfl | hi'
      · exact head
      · exact (qT_sound B hP hQ hQp hsel r hok2 hcl (fun k hk => hsub k (List.mem_cons_of_mem _ hk)) h2 hr L hL hJ).2 i' f hi' rfl (fun h => by cases h)
    refine ⟨fun _ hrem => ⟨fun h0 => absurd h0 (by rw [← hrem]; simp), fun i' hi' => key i' f (by rw [hrem]; exact hi') rfl⟩, fun i' f' hi' hf _ => key i' f' hi' hf⟩

theorem getD_repl (m j : Nat) : (Array.replicate m false).getD j false = false := by
  rcases Nat.lt_or_ge j m with h | h
  · simp [h]
  · simp [h]
theorem AWp.quietFirst {B : Tabs} {n : Nat} {s : St} {Q : Exit → St → Prop} {id : Nat} {l : List Oper} (t : Qt) (ql p : List Nat) (hm : B.P.follows .mixedOrders = true)
    (hB : (Region.noSelect l.toArray && t.okB l.toArray ql l.toArray.size (Array.replicate l.toArray.size false) (Region.ready .any l.toArray (Array.replicate l.toArray.size false)) true) = true) (h : qT B n l p (fun s' => Unit → Q .normal s') t s) : AWp B n (.region id l.toArray true) s Q := by
  unfold AWp
  intro cx hP hn a w hr
  subst hn
  obtain ⟨τ, F, hr⟩ := hr
  rw [Bool.and_eq_true] at hB
  have hb0 : Below w.heap.size w { w with drawn := w.drawn + 1 } := ⟨rfl, rfl, rfl, Nat.le_refl _, fun _ _ => rfl⟩
  have hr1 := hr.later hb0
  let Q' : Exit → Act → World → Prop := fun e a' w' => e = .normal ∧ ∃ s', (Unit → Q .normal s') ∧ Rel cx s' a' w'
  have key := (qT_sound B hP (Q := Q') (fun s' a' w' hK hr' => ⟨rfl, s', hK, hr'⟩) (fun c a w h => by cases h.1) hB.1 t hB.2 (fun j oj _ hl => by rw [getD_repl] at hl; cases hl) (fun k hk => hk) h hr1 [] (fun x hx => by cases hx) (fun x hx => by cases hx)).1 rfl rfl
  have := wp_region_any (id := id) (P := cx.P) (by rw [hP]; exact hm) (wpAnyJ_any _ _ _ _ key)
  rw [hP] at this
  refine wp_mono this fun e a' w' ⟨he, s', h1, h2⟩ => ?_
  subst he
  exact ⟨s', h1 (), h2⟩
end Go.Abs

namespace Go.Abs
open Go Go.RowKit
set_option linter.unusedVariables false

theorem aops_before (B : Tabs) {cx : Cx} (hP : cx.P = B.P) {ops : List Oper} {r2 : List Oper} {Q : Exit → Act → World → Prop} : ∀ (l : List Oper) {s : St} {K : St → Prop}, aops B cx.n ops l s K → ∀ {a : Act} {w : World}, Rel cx s a w →
    (∀ s' a' w', K s' → Rel cx s' a' w' → wpList cx.P ops.toArray Q r2 a' w') → wpList cx.P ops.toArray Q (l ++ r2) a w
  | [], s, K, h, a, w, hr, hQ => hQ _ _ _ h hr
  | o :: r, s, K, h, a, w, hr, hQ => by
    rw [List.cons_append]
    simp only [wpList]
    unfold aops at h
    split at h
    · rename_i hg
      have hw : Region.wanted o (yielded ops.toArray a.tmps) = true := by unfold Region.wanted; rw [hg]
      rw [if_pos hw]
      exact .inl (aop_sound B hP h hr fun s' a' w' hK hr' => aops_before B hP r hK hr' hQ)
    · rename_i i b hg
      have hr0 := hr
      obtain ⟨τ, F, hr1⟩ := hr
      obtain ⟨g, hG, hw⟩ := wanted_guard hg h hr1.env
      obtain ⟨h1, h2⟩ := aopG_sound B hP (Q := Q) hG hr0 (next := wpList cx.P ops.toArray Q (r ++ r2)) fun s' a' w' hK hr' => aops_before B hP r hK hr' hQ
      rw [hw]
      cases g with
      | true => rw [if_pos rfl]; exact .inl (h1 rfl)
      | false => rw [if_neg (by simp)]; exact h2 rfl

/-- A region with a freeze of the own row 'i' behind its first 'k' operations. -/
theorem AWp.regionFrz {B : Tabs} {n : Nat} {s : St} {Q : Exit → St → Prop} {id : Nat} {l : List Oper} (k i : Nat) (f' : Nat → List AV)
    (h : aops B n l (l.take k) s fun s' => ∃ e esz m f, look s'.heap i = some (.row e esz m f) ∧ (∀ j, j < m → f' j = f j) ∧ aops B n l (l.drop k) (s'.frz i (.row e esz m f')) (fun s' => Unit → Q .normal s')) : AWp B n (.region id l.toArray false) s Q := by
  unfold AWp
  intro cx hP hn a w hr
  subst hn
  rw [← hP]
  refine wp_region_lit ?_
  have := aops_before B hP (Q := fun e a' w' => ∃ s', Q e s' ∧ Rel cx s' a' w') (r2 := l.drop k) (l.take k) h hr fun s' a' w' ⟨e, esz, m, f, h1, h2, h3⟩ ⟨τ, F, hr'⟩ =>
    aops_sound B hP (l.drop k) h3 (hr'.freeze (o := .row e esz m f') ⟨m, f, h1, rfl, h2⟩ (by rw [h1]; trivial) trivial) fun s' a' w' hK hr' => ⟨s', hK (), hr'⟩
  rwa [List.take_append_drop] at this
end Go.Abs
