/- A region that draws its order, walked in every order that it may take. No condition. -/
import Derived.Test.YtdilfbdfefppbaaData
import Derived.Orders
namespace Go.Abs
open Go Go.RowKit
set_option linter.unusedVariables false

/-- The orders that a drawn region may take, as a tree of choices. -/
inductive Tr
  | fin
  | no
  | alt (i : Nat) (t r : Tr)

def Tr.okB (ops : Array Oper) : Tr → Nat → Array Bool → List Nat → Bool → Bool
  | .fin, _, _, rem, e => e && rem.isEmpty
  | .no, _, _, rem, e => !e && rem.isEmpty
  | .alt i t r, f + 1, listed, j :: rem, _ => Nat.beq i j && (t.okB ops f (listed.setIfInBounds i true) (Region.ready .any ops (listed.setIfInBounds i true)) true && r.okB ops (f + 1) listed rem false)
  | .alt _ _ _, _, _, _, _ => false

def anyT (B : Tabs) (n : Nat) (ops : List Oper) (K : St → Prop) : Tr → St → Prop
  | .fin, s => K s
  | .no, s => True
  | .alt i t r, s => (match ops[i]? with | some o => aops B n ops [o] s (fun s' => anyT B n ops K t s') | none => False) ∧ anyT B n ops K r s

theorem one_sound (B : Tabs) {cx : Cx} (hP : cx.P = B.P) {ops : List Oper} {o : Oper} {i : Nat} (hi : ops[i]? = some o) {s : St} {K : St → Prop} (h : aops B cx.n ops [o] s K) {a : Act} {w : World} (hr : Rel cx s a w)
    {next : Act → World → Prop} {Q : Exit → Act → World → Prop} (hn : ∀ s' a' w', K s' → Rel cx s' a' w' → next a' w') : wpOp cx.P ops.toArray Q i next a w := by
  have hi' : ops.toArray[i]? = some o := by simpa using hi
  unfold wpOp
  simp only [hi']
  unfold aops at h
  split at h
  · rename_i hg
    have hw : Region.wanted o (yielded ops.toArray a.tmps) = true := by unfold Region.wanted; rw [hg]
    rw [if_pos hw]
    exact .inl (aop_sound B hP h hr fun s' a' w' hK hr' => hn _ _ _ hK hr')
  · rename_i i b hg
    have hr0 := hr
    obtain ⟨τ, F, hr1⟩ := hr
    obtain ⟨g, hG, hw⟩ := wanted_guard hg h hr1.env
    obtain ⟨h1, h2⟩ := aopG_sound B hP (Q := Q) hG hr0 (next := next) fun s' a' w' hK hr' => hn _ _ _ hK hr'
    rw [hw]
    cases g with
    | true => rw [if_pos rfl]; exact .inl (h1 rfl)
    | false => rw [if_neg (by simp)]; exact h2 rfl

theorem anyT_sound (B : Tabs) {cx : Cx} (hP : cx.P = B.P) {ops : List Oper} {K : St → Prop} {Q : Exit → Act → World → Prop} (hQ : ∀ s' a' w', K s' → Rel cx s' a' w' → Q .normal a' w') :
    ∀ (t : Tr) {f : Nat} {listed : Array Bool} {rem : List Nat} {e : Bool}, t.okB ops.toArray f listed rem e = true → ∀ {s : St}, anyT B cx.n ops K t s → ∀ {a : Act} {w : World}, Rel cx s a w →
      (e = true → rem = Region.ready .any ops.toArray listed → wpAny cx.P .any ops.toArray Q f listed a w) ∧
      (∀ i f', i ∈ rem → f = f' + 1 → wpOp cx.P ops.toArray Q i (wpAny cx.P .any ops.toArray Q f' (listed.setIfInBounds i true)) a w)
  | .fin, f, listed, rem, e, hok, s, h, a, w, hr => by
    simp only [Tr.okB, Bool.and_eq_true, List.isEmpty_iff] at hok
    obtain ⟨_, rfl⟩ := hok
    refine ⟨fun _ hrem => ?_, fun i f' hi => absurd hi (by simp)⟩
    cases f with
    | zero => exact ⟨hrem.symm, hQ _ _ _ h hr⟩
    | succ f => exact ⟨fun _ => hQ _ _ _ h hr, fun i hi => absurd hi (by rw [← hrem]; simp)⟩
  | .no, f, listed, rem, e, hok, s, h, a, w, hr => by
    simp only [Tr.okB, Bool.and_eq_true, List.isEmpty_iff, Bool.not_eq_true'] at hok
    obtain ⟨he, rfl⟩ := hok
    exact ⟨fun h1 => absurd h1 (by rw [he]; simp), fun i f' hi => absurd hi (by simp)⟩
  | .alt i t r, 0, listed, rem, e, hok, s, h, a, w, hr => by simp [Tr.okB] at hok
  | .alt i t r, f + 1, listed, [], e, hok, s, h, a, w, hr => by simp [Tr.okB] at hok
  | .alt i t r, f + 1, listed, j :: rem, e, hok, s, h, a, w, hr => by
    simp only [Tr.okB, Bool.and_eq_true] at hok
    obtain ⟨hij, hok1, hok2⟩ := hok
    have hij := Nat.eq_of_beq_eq_true hij
    subst hij
    unfold anyT at h
    obtain ⟨h1, h2⟩ := h
    have key : ∀ i' f', i' ∈ i :: rem → f + 1 = f' + 1 → wpOp cx.P ops.toArray Q i' (wpAny cx.P .any ops.toArray Q f' (listed.setIfInBounds i' true)) a w := by
      intro i' f' hi' hf
      obtain rfl : f = f' := by omega
      rcases List.mem_cons.1 hi' with rfl | hi'
      · split at h1
        · rename_i o ho
          exact one_sound B hP ho h1 hr fun s' a' w' hK hr' => (anyT_sound B hP hQ t hok1 hK hr').1 rfl rfl
        · exact h1.elim
      · exact (anyT_sound B hP hQ r hok2 h2 hr).2 i' f hi' rfl
    refine ⟨fun _ hrem => ⟨fun h0 => absurd h0 (by rw [← hrem]; simp), fun i' hi' => key i' f (by rw [hrem]; exact hi') rfl⟩, key⟩

theorem AWp.any {B : Tabs} {n : Nat} {s : St} {Q : Exit → St → Prop} {id : Nat} {l : List Oper} (t : Tr) (hm : B.P.follows .mixedOrders = true)
    (hB : t.okB l.toArray l.toArray.size (Array.replicate l.toArray.size false) (Region.ready .any l.toArray (Array.replicate l.toArray.size false)) true = true) (h : anyT B n l (fun s' => Unit → Q .normal s') t s) : AWp B n (.region id l.toArray true) s Q := by
  unfold AWp
  intro cx hP hn hX a w hr
  subst hn
  rw [← hP]
  obtain ⟨τ, F, hr⟩ := hr
  have hb0 : Below w.heap.size w { w with drawn := w.drawn + 1 } := ⟨rfl, rfl, rfl, Nat.le_refl _, fun _ _ => rfl⟩
  have hr1 := hr.later hb0
  refine wp_region_any (by rw [hP]; exact hm) ?_
  exact (anyT_sound B hP (Q := fun e a' w' => ∃ s', Q e s' ∧ Rel cx s' a' w') (fun s' a' w' hK hr' => ⟨s', hK (), hr'⟩) t hB h ⟨τ, F, hr1⟩).1 rfl rfl

theorem aops_before (B : Tabs) {cx : Cx} (hP : cx.P = B.P) {ops : List Oper} {r2 : List Oper} {Q : Exit → Act → World → Prop} : ∀ (l : List Oper) {s : St} {K : St → Prop}, aops B cx.n ops l s K → ∀ {a : Act} {w : World}, Rel cx s a w →
    (∀ s' a' w', K s' → Rel cx s' a' w' → wpList cx.P ops.toArray Q r2 a' w') → wpList cx.P ops.toArray Q (l ++ r2) a w
  | [], s, K, h, a, w, hr, hQ => hQ _ _ _ h hr
  | o :: r, s, K, h, a, w, hr, hQ => by
    rw [List.cons_append]
    simp only [wpList]
    unfold aops at h
    split at h
    · rename_i hg
      have hw : Region.wanted o (yielded ops.toArray a.tmps) = true := by unfold Region.wanted; rw [hg]
      rw [if_pos hw]
      exact .inl (aop_sound B hP h hr fun s' a' w' hK hr' => aops_before B hP r hK hr' hQ)
    · rename_i i b hg
      have hr0 := hr
      obtain ⟨τ, F, hr1⟩ := hr
      obtain ⟨g, hG, hw⟩ := wanted_guard hg h hr1.env
      obtain ⟨h1, h2⟩ := aopG_sound B hP (Q := Q) hG hr0 (next := wpList cx.P ops.toArray Q (r ++ r2)) fun s' a' w' hK hr' => aops_before B hP r hK hr' hQ
      rw [hw]
      cases g with
      | true => rw [if_pos rfl]; exact .inl (h1 rfl)
      | false => rw [if_neg (by simp)]; exact h2 rfl

/-- A region with a freeze of the own row 'i' behind its first 'k' operations. -/
theorem AWp.regionFrz {B : Tabs} {n : Nat} {s : St} {Q : Exit → St → Prop} {id : Nat} {l : List Oper} (k i : Nat) (f' : Nat → List AV)
    (h : aops B n l (l.take k) s fun s' => ∃ e esz m f, look s'.heap i = some (.row e esz m f) ∧ (∀ j, j < m → f' j = f j) ∧ aops B n l (l.drop k) (s'.frz i esz f') (fun s' => Unit → Q .normal s')) : AWp B n (.region id l.toArray false) s Q := by
  unfold AWp
  intro cx hP hn hX a w hr
  subst hn
  rw [← hP]
  refine wp_region_lit ?_
  have := aops_before B hP (Q := fun e a' w' => ∃ s', Q e s' ∧ Rel cx s' a' w') (r2 := l.drop k) (l.take k) h hr fun s' a' w' ⟨e, esz, m, f, h1, h2, h3⟩ ⟨τ, F, hr'⟩ =>
    aops_sound B hP (l.drop k) h3 (hr'.freeze h1 h2 hX) fun s' a' w' hK hr' => ⟨s', hK (), hr'⟩
  rwa [List.take_append_drop] at this
end Go.Abs
