/- One operation, regions, code, calls: their rules over what is known. No condition. -/
import Derived.Test.YtdilfbdfefppbaaAbs
import Derived.Laws.CopyRow
import Derived.Tactics
set_option linter.unusedVariables false
set_option linter.unusedSimpArgs false
namespace Go.Abs
open Go Go.RowKit
set_option linter.unusedVariables false

def fnB (P : Program) (f : FuncId) : Bool :=
  match P.funcs[f]? with
  | some fn => fn.name != "runtime.NumGoroutine" && fn.body.isSome
  | none => false

/-- The contract of a function that writes nothing of old: called with such values it hands back such a value. -/
def ACallIs (P : Program) (f : FuncId) (avs : List AV) (r : AV) : Prop :=
  fnB P f = true ∧ ∀ (F : Nat → Prop) (w : World) (vs : List Value), (∀ k, F k → k < w.heap.size) → vs.length = avs.length → (∀ (j : Nat) (x : AV), avs[j]? = some x → Rep F w (fun _ => none) x (vs.getD j undef)) →
    Calls P f vs.toArray w fun e w' => ∃ v F', e = .returned v ∧ Below w.heap.size w w' ∧ (∀ k, F k → F' k) ∧ (∀ k, F' k → F k ∨ w.heap.size ≤ k) ∧ (∀ k, F' k → k < w'.heap.size) ∧ Rep F' w' (fun _ => none) r v

def CallK (P : Program) (g : Bool) (f : FuncId) (avs : List AV) (K : AV → Prop) : Prop := ∃ y, (g = true → ACallIs P f avs y) ∧ K y
@[congr] theorem CallK_congr {P : Program} {g g' : Bool} {f : FuncId} {avs avs' : List AV} {K : AV → Prop} (hg : g = g') (h : avs = avs') : CallK P g f avs K = CallK P g' f avs' K := by rw [hg, h]

/-- What a value's cells are. -/
def cellsV (x : AV) (K : List AV → Prop) : Prop :=
  match x with
  | .agg cs => K cs
  | .val v => chk v.oneCell' (K [.val v])
  | .ro sz n row => K [.ro sz n row]
  | .ptr cs => K [.ptr cs]
  | .obj id off => K [.obj id off]
  | .sl id n => K [.sl id n]
  | _ => False

def AV.oneB : AV → Bool
  | .val v => v.oneCell'
  | .ro _ _ _ | .ptr _ | .obj _ _ | .sl _ _ => true
  | _ => false

def zeroCells (P : Program) (t : Nat) : Option (List Value) := ((P.info? t).bind (·.zero)).map (·.cells.toList)
def ZOK (P : Program) : List (Nat × List Value) → Prop
  | [] => True
  | (t, vs) :: r => zeroCells P t = some vs ∧ ZOK P r
theorem ZOK.at_ {P : Program} : ∀ {Z : List (Nat × List Value)}, ZOK P Z → ∀ {t vs}, look Z t = some vs → zeroCells P t = some vs
  | [], _, _, _, h => by cases h
  | (k, vs') :: r, hz, t, vs, h => by
    rw [look_cons] at h
    split at h
    · rename_i e; subst e; injection h with h; subst h; exact hz.1
    · exact hz.2.at_ h

def St.put (s : St) (d : Nat) (x : AV) : St := { s with env := (d, x) :: s.env }
def St.new (s : St) (d : Nat) (x : AV) (o : HO) : St := { env := (d, x) :: s.env, heap := (d, o) :: s.heap }
def setHeap {α : Type} (h : List (Nat × α)) (id : Nat) (o : α) : List (Nat × α) :=
  match h with
  | [] => []
  | (k, v) :: r => if id = k then (k, o) :: r else (k, v) :: setHeap r id o

/-- The tables that go with a program. -/
structure Tabs where
  P : Program
  T : List (Nat × TI)
  Z : List (Nat × List Value)
  hT : tabB P T = true
  hZ : ZOK P Z

/-- One operation in its turn. -/
def aop (B : Tabs) (n : Nat) (s : St) (op : Op) (d : Option Nat) (K : St → Prop) : Prop :=
  match op, d with
  | .call { callee := .value (.func f), args := as, argTypes := _ }, some d => chk (Nat.blt d n) (agets true s as.toList fun ys => chk (AV.pureL ys) (CallK B.P true f ys fun y => chk (AV.pureB y) (K (s.put d y))))
  | .alloc t, some d => chk (Nat.blt d n) (chk (look s.heap d).isNone (match look B.Z t with
    | some vs => K (s.new d (.obj d 0) (.cells (vs.map .val)))
    | none => False))
  | .box _ x, some d => chk (Nat.blt d n) (chk (look s.heap d).isNone (aget true s x fun xv => cellsV xv fun cs => K (s.new d (.obj d 0) (.cells cs))))
  | .store t x y, none => aget true s x fun xv => aget true s y fun yv => cellsV yv fun cs => (match xv with
    | .obj id off => (match look s.heap id, look B.T t with
      | some (.cells old), some ti => chk (Nat.ble (off + cs.length) old.length) (chk (Nat.beq ti.aggSize cs.length) (chk (cs.all AV.oneB) (K { s with heap := setHeap s.heap id (.cells (old.take off ++ cs ++ old.drop (off + cs.length))) })))
      | _, _ => False)
    | _ => False)
  | op, some d => chk (Nat.blt d n) (qop B.T true s op fun y => K (s.put d y))
  | _, _ => False

def guardB (ops : List Oper) (s : St) (i : Nat) (b : Bool) (K : Bool → Prop) : Prop :=
  match (ops[i]?).bind (·.dst) with
  | some d => (match look s.env d with
    | some (.val (.bool x)) => K (x == b)
    | some (.cond g (.val (.bool x))) => K (g && (x == b))
    | _ => False)
  | none => False

def aopG (B : Tabs) (n : Nat) (g : Bool) (s : St) (op : Op) (d : Option Nat) (K : St → Prop) : Prop :=
  match op, d with
  | .call { callee := .value (.func f), args := as, argTypes := _ }, some d => chk (Nat.blt d n) (agets g s as.toList fun ys => chk (AV.pureL ys) (CallK B.P g f ys fun y => chk (AV.pureB y) (K (s.put d (.cond g y)))))
  | op, some d => chk (Nat.blt d n) (qop B.T g s op fun y => K (s.put d (.cond g y)))
  | _, none => False

/-- The operations of a region, in their order. -/
def aops (B : Tabs) (n : Nat) (ops : List Oper) : List Oper → St → (St → Prop) → Prop
  | [], s, K => K s
  | o :: r, s, K => match o.guard with
    | none => aop B n s o.op o.dst fun s' => aops B n ops r s' K
    | some (i, b) => guardB ops s i b fun g => aopG B n g s o.op o.dst fun s' => aops B n ops r s' K
end Go.Abs

namespace Go.Abs
open Go Go.RowKit
set_option linter.unusedVariables false

theorem hblk_none_of {F : Nat → Prop} : True := trivial

/-- A new object. -/
theorem RelA.new {cx τ F s a w w'} (h : RelA cx τ F s a w) {d : Nat} (hd : d < cx.n) (hf : look s.heap d = none) {o : HO} {x : AV} {v u : Value} (hb : Below w.heap.size w w')
    (hk : ∀ b, hblk v = some b → w.heap.size ≤ b ∧ b < w'.heap.size)
    (ho : ∀ τ', (∀ id u, τ id = some u → τ' id = some u) → τ' d = some v → HOk F w' τ' o v ∧ Rep F w' τ' x u) : Rel cx (s.new d x o) (a.put (some d) u) w' := by
  have hnone : τ d = none := by
    cases e : τ d with
    | none => rfl
    | some v' => obtain ⟨o', ho'⟩ := h.wr.dom d v' e; rw [hf] at ho'; cases ho'
  let τ' : Nat → Option Value := fun id => if id = d then some v else τ id
  have hτ : ∀ id u, τ id = some u → τ' id = some u := fun id u hu => by
    show (if id = d then some v else τ id) = some u
    rw [if_neg (by rintro rfl; rw [hnone] at hu; cases hu)]; exact hu
  have hτd : τ' d = some v := if_pos rfl
  have hinv : ∀ id u, τ' id = some u → (id = d ∧ u = v) ∨ (id ≠ d ∧ τ id = some u) := fun id u hu => by
    have hu' : (if id = d then some v else τ id) = some u := hu
    split at hu'
    · rename_i e; injection hu' with hu'; exact .inl ⟨e, hu'.symm⟩
    · rename_i e; exact .inr ⟨e, hu'⟩
  obtain ⟨ho1, ho2⟩ := ho τ' hτ hτd
  have h' := h.later hb
  refine ⟨τ', F, ⟨h'.wr.keeps, h'.wr.fz, fun k id u hFk hu => ?_, h'.wr.fsub, h'.wr.fsup, fun id u b hu hbk => ?_, fun id id' u u' b hu hu' hb1 hb2 => ?_, fun id o' hl => ?_, fun id u hu => ?_⟩, by simp [Act.put, h.size], by simp [Act.put, h.defers], fun t y ht => ?_⟩
  · rcases hinv id u hu with ⟨_, rfl⟩ | ⟨_, hu⟩
    · intro e; have := (hk k e).1; have := h.wr.fz k hFk; omega
    · exact h.wr.fne k id u hFk hu
  · rcases hinv id u hu with ⟨_, rfl⟩ | ⟨_, hu2⟩
    · exact ⟨.inl (Nat.le_trans h.wr.keeps.size (hk b hbk).1), (hk b hbk).2⟩
    · exact h'.wr.tlt id u b hu2 hbk
  · rcases hinv id u hu with ⟨e1, e2⟩ | ⟨_, k1⟩ <;> rcases hinv id' u' hu' with ⟨e3, e4⟩ | ⟨_, k2⟩
    · rw [e1, e3]
    · subst e2; have := (hk b hb1).1; have := (h.wr.tlt id' u' b k2 hb2).2; omega
    · subst e4; have := (hk b hb2).1; have := (h.wr.tlt id u b k1 hb1).2; omega
    · exact h.wr.inj id id' u u' b k1 k2 hb1 hb2
  · simp only [St.new] at hl
    rw [look_cons] at hl
    split at hl
    · rename_i e; subst e; injection hl with hl; subst hl; exact ⟨v, hτd, ho1⟩
    · obtain ⟨u, h1, h2⟩ := h'.wr.obj id o' hl
      exact ⟨u, hτ id u h1, h2.mono (fun _ h => h) (fun _ _ => rfl) hτ fun _ _ => rfl⟩
  · simp only [St.new, look_cons]
    rcases hinv id u hu with ⟨rfl, _⟩ | ⟨hne, hu⟩
    · exact ⟨o, if_pos rfl⟩
    · obtain ⟨o', ho'⟩ := h.wr.dom id u hu; exact ⟨o', by rw [if_neg hne]; exact ho'⟩
  · simp only [St.new] at ht
    rw [look_cons] at ht
    split at ht
    · rename_i e; subst e; injection ht with ht; subst ht
      refine ⟨hd, ?_⟩
      have : (a.tmps.setIfInBounds t u).getD t undef = u := by
        have ht : t < a.tmps.size := by rw [h.size]; exact hd
        simp [ht]
      simp only [Act.put]; rw [this]; exact ho2
    · obtain ⟨h1, h2⟩ := h'.env t y ht
      refine ⟨h1, ?_⟩
      have : (a.tmps.setIfInBounds d u).getD t undef = a.tmps.getD t undef := by
        simp only [Array.getD_eq_getD_getElem?]
        rw [Array.getElem?_setIfInBounds_ne (by omega)]
      simp only [Act.put]; rw [this]; exact h2.mono (fun _ h => h) (fun _ _ => rfl) hτ

theorem cellsV_sound {x : AV} {K : List AV → Prop} (h : cellsV x K) : ∃ cs, K cs ∧ ∀ F w τ v, Rep F w τ x v → v.cells.size = cs.length ∧ ∀ (j : Nat) (c : AV), cs[j]? = some c → Rep F w τ c (v.cells.getD j undef) := by
  have one : ∀ (x : AV) F w τ v, v.oneCell' = true → Rep F w τ x v → v.cells.size = [x].length ∧ ∀ (j : Nat) (c : AV), [x][j]? = some c → Rep F w τ c (v.cells.getD j undef) := by
    intro x F w τ v ho hr
    have hc : v.cells = #[v] := by cases v <;> first | rfl | simp [Value.oneCell'] at ho
    rw [hc]
    refine ⟨rfl, fun j c hj => ?_⟩
    cases j with
    | zero => simp at hj; subst hj; exact hr
    | succ j => simp at hj
  unfold cellsV at h
  split at h
  · refine ⟨_, h, fun F w τ v hr => ?_⟩
    cases hr with
    | agg _ _ vs hl hv => exact ⟨hl.symm, hv⟩
  · obtain ⟨h1, h2⟩ := chk_spec h
    refine ⟨_, h2, fun F w τ v hr => ?_⟩
    cases hr; exact one _ F w τ _ h1 (.val _ _)
  · refine ⟨_, h, fun F w τ v hr => one _ F w τ v (by cases hr; rfl) hr⟩
  · refine ⟨_, h, fun F w τ v hr => one _ F w τ v (by cases hr; rfl) hr⟩
  · refine ⟨_, h, fun F w τ v hr => one _ F w τ v (by cases hr; rfl) hr⟩
  · refine ⟨_, h, fun F w τ v hr => one _ F w τ v (by cases hr; rfl) hr⟩
  · exact h.elim

theorem oneB_sound {F w τ x v} (h : Rep F w τ x v) (ho : x.oneB = true) : v.oneCell' = true := by
  cases h <;> first | rfl | exact ho | simp [AV.oneB] at ho

theorem below_alloc (w : World) (o : Obj) : Below w.heap.size w (w.alloc o) := (Below.refl _ _).alloc (Nat.le_refl _) _

theorem look_setHeap {α : Type} (h : List (Nat × α)) (id : Nat) (o : α) (id' : Nat) : look (setHeap h id o) id' = if id' = id then (look h id).map fun _ => o else look h id' := by
  induction h with
  | nil => simp [setHeap, look]
  | cons x r ih =>
    obtain ⟨k, v⟩ := x
    simp only [setHeap]
    by_cases e : id = k
    · subst e
      by_cases e' : id' = id
      · simp [e', look_cons]
      · simp [e', look_cons]
    · rw [if_neg e]
      simp only [look_cons, ih]
      by_cases e' : id' = k
      · subst e'
        rw [if_pos rfl, if_neg (fun h => e h.symm)]; simp
      · rw [if_neg e']
        by_cases e2 : id' = id
        · subst e2; simp [e]
        · simp [e2, e']

/-- A store into an object of the frame's own. -/
theorem RelA.write {cx τ F s a w} (h : RelA cx τ F s a w) {id : Nat} {old : List AV} (hl : look s.heap id = some (.cells old)) {b : Nat} (hτ : τ id = some (.pointer (some ⟨b, 0, none⟩))) {off : Nat} {cs : List AV}
    (hoff : off + cs.length ≤ old.length) {v : Value} (hsz : v.cells.size = cs.length) (hrep : ∀ (j : Nat) (c : AV), cs[j]? = some c → Rep F w τ c (v.cells.getD j undef)) (hone : cs.all AV.oneB = true) :
    ∃ w', (storeCells ⟨b, off, none⟩ v.cells.toList 0).run cx.P w = .ok () w' ∧ RelA cx τ F { s with heap := setHeap s.heap id (.cells (old.take off ++ cs ++ old.drop (off + cs.length))) } a w' := by
  obtain ⟨u, h1, b', c, ty, rfl, h3, h4, h5⟩ := h.wr.obj id _ hl
  rw [hτ] at h1; injection h1 with h1; injection h1 with h1; injection h1 with h1; injection h1 with h1; subst h1
  have hall : ∀ x ∈ v.cells.toList, x.oneCell' = true := by
    intro x hx
    obtain ⟨j, hj, rfl⟩ := List.getElem_of_mem hx
    have hj' : j < cs.length := by simpa [hsz] using hj
    have e := hrep j _ (List.getElem?_eq_getElem hj')
    have e2 : v.cells.getD j undef = v.cells.toList[j] := by
      have : j < v.cells.size := by omega
      simp [this]
    rw [e2] at e
    exact oneB_sound e (List.all_eq_true.1 hone _ (List.getElem_mem hj'))
  have hrun := run_storeCells_at cx.P b off ty v.cells.toList 0 c w h3 (by simp [hsz]; omega) hall
  refine ⟨_, hrun, ?_⟩
  simp only [Nat.add_zero, Array.length_toList] at hrun ⊢
  generalize hnew : (c.toList.take off ++ v.cells.toList ++ c.toList.drop (off + v.cells.size)).toArray = c' at hrun ⊢
  have hw' : (w.setRow b c').heap[b]? = some (.cells c' ty (0, 0)) := setRow_heap w b c c' ty _ h3
  have hother : ∀ k, k ≠ b → (w.setRow b c').heap[k]? = w.heap[k]? := fun k hk => by
    simp only [World.setRow, Array.getElem?_modify]; rw [if_neg (fun e => hk e.symm)]
  have hsize : (w.setRow b c').heap.size = w.heap.size := by simp [World.setRow]
  have htl := h.wr.tlt id _ b hτ rfl
  have hFb : ∀ k, F k → k ≠ b := fun k hk e => h.wr.fne k id _ hk hτ (by subst e; rfl)
  have hF : ∀ k, F k → (w.setRow b c').heap[k]? = w.heap[k]? := fun k hk => hother k (hFb k hk)
  have hmono : ∀ x u, Rep F w τ x u → Rep F (w.setRow b c') τ x u := fun x u hr => hr.mono (fun _ h => h) hF (fun _ _ h => h)
  refine ⟨⟨⟨h.wr.keeps.os, h.wr.keeps.tape, h.wr.keeps.output, by rw [hsize]; exact h.wr.keeps.size, fun k hk hx => ?_⟩, fun k hk => by rw [hsize]; exact h.wr.fz k hk, h.wr.fne, h.wr.fsub, h.wr.fsup, fun id v b hv hk => by rw [hsize]; exact h.wr.tlt id v b hv hk, h.wr.inj, fun id' o hl' => ?_, fun id' u hu => ?_⟩, h.size, h.defers, fun t x ht => ⟨(h.env t x ht).1, hmono _ _ (h.env t x ht).2⟩⟩
  · rw [hother k (by rintro rfl; rcases htl.1 with h | h; omega; exact hx h)]; exact h.wr.keeps.block k hk hx
  · rw [look_setHeap] at hl'
    split at hl'
    · rename_i e; subst e
      rw [hl] at hl'; simp only [Option.map_some, Option.some.injEq] at hl'; subst hl'
      have hc' : c'.size = old.length := by
        subst hnew
        simp [hsz, h4]; omega
      refine ⟨_, hτ, b, c', ty, rfl, hw', by rw [hc']; simp; omega, fun j x hx => hmono _ _ ?_⟩
      subst hnew
      by_cases j1 : j < off
      · have e1 : (old.take off ++ cs ++ old.drop (off + cs.length))[j]? = old[j]? := by
          rw [List.append_assoc, List.getElem?_append_left (by simp; omega), List.getElem?_take, if_pos j1]
        rw [e1] at hx
        have := h5 j x hx
        have hjc : j < c.size := by have := (List.getElem?_eq_some_iff.1 hx).1; omega
        have e2 : (c.toList.take off ++ v.cells.toList ++ c.toList.drop (off + v.cells.size)).toArray.getD j undef = c.getD j undef := by
          simp only [Array.getD_eq_getD_getElem?, List.getElem?_toArray]
          rw [List.append_assoc, List.getElem?_append_left (by simp; omega), List.getElem?_take, if_pos j1]
          simp
        rw [e2]; exact this
      · by_cases j2 : j < off + cs.length
        · have e1 : (old.take off ++ cs ++ old.drop (off + cs.length))[j]? = cs[j - off]? := by
            have hlen : (old.take off).length = off := by simp; omega
            rw [List.append_assoc, List.getElem?_append_right (by omega), List.getElem?_append_left (by omega), hlen]
          rw [e1] at hx
          have := hrep (j - off) x hx
          have e2 : (c.toList.take off ++ v.cells.toList ++ c.toList.drop (off + v.cells.size)).toArray.getD j undef = v.cells.getD (j - off) undef := by
            have hlen : (c.toList.take off).length = off := by simp; omega
            simp only [Array.getD_eq_getD_getElem?, List.getElem?_toArray]
            rw [List.append_assoc, List.getElem?_append_right (by omega), List.getElem?_append_left (by simp [hlen, hsz]; omega), hlen]
            simp
          rw [e2]; exact this
        · have e1 : (old.take off ++ cs ++ old.drop (off + cs.length))[j]? = old[j]? := by
            have hlen : (old.take off ++ cs).length = off + cs.length := by simp; omega
            rw [List.getElem?_append_right (by omega), hlen, List.getElem?_drop]
            congr 1; omega
          rw [e1] at hx
          have := h5 j x hx
          have e2 : (c.toList.take off ++ v.cells.toList ++ c.toList.drop (off + v.cells.size)).toArray.getD j undef = c.getD j undef := by
            have hlen : (c.toList.take off ++ v.cells.toList).length = off + cs.length := by simp [hsz]; omega
            simp only [Array.getD_eq_getD_getElem?, List.getElem?_toArray]
            rw [List.getElem?_append_right (by omega), hlen, List.getElem?_drop, hsz]
            rw [show off + cs.length + (j - (off + cs.length)) = j by omega]
            simp
          rw [e2]; exact this
    · rename_i hne
      obtain ⟨u, q1, q2⟩ := h.wr.obj id' o hl'
      refine ⟨u, q1, q2.mono (fun _ h => h) hF (fun _ _ h => h) fun b' hb' => hother b' ?_⟩
      rintro rfl
      exact hne (h.wr.inj id' id u _ b' q1 hτ hb' rfl)
  · rw [look_setHeap]
    obtain ⟨o, ho⟩ := h.wr.dom id' u hu
    by_cases e : id' = id
    · subst e; rw [if_pos rfl, hl]; exact ⟨_, rfl⟩
    · rw [if_neg e]; exact ⟨o, ho⟩
end Go.Abs

namespace Go.Abs
open Go Go.RowKit
set_option linter.unusedVariables false

theorem blt_lt {a b : Nat} (h : Nat.blt a b = true) : a < b := by simpa [Nat.blt_eq] using h

theorem fnB_call {P : Program} {f : FuncId} (h : fnB P f = true) (args : Array Value) (w : World) : (callFunc f args).run P w = .ok (.enter f args) w := by
  unfold fnB at h
  split at h
  · rename_i fn hf
    simp only [Bool.and_eq_true, bne_iff_ne, ne_eq] at h
    have h2 : fn.body.isNone = false := by simpa using h.2
    have h3 : (fn.name == "runtime.NumGoroutine") = false := by simpa using h.1
    simp only [callFunc, Sem.run_bind, run_program, Result.andThen_ok, hf, h3, h2]
    rfl
  · cases h

theorem call_run {P : Program} {f : FuncId} (h : fnB P f = true) {a : Act} {o : Oper} {as : Array Operand} {ts : Array TypeId} (ho : o.op = .call { callee := .value (.func f), args := as, argTypes := ts }) (w : World) :
    (execOp a.eval o).run P w = .ok (.enter f (as.map a.eval)) w := by
  simp only [execOp, ho, Sem.run_bind, resolve, Act.eval, Deferred.ofValue, Sem.run_pure, Result.andThen_ok, invoke, Array.empty_append, Array.append_empty]
  exact fnB_call h _ w

/-- The arguments as the contract asks them. -/
theorem args_rep {F : Nat → Prop} {τ : Nat → Option Value} {w : World} {a : Act} {as : Array Operand} {ys : List AV} (hl : ys.length = as.toList.length) (hp : AV.pureL ys = true)
    (hr : ∀ (j : Nat) (y : AV), ys[j]? = some y → ∃ x, as.toList[j]? = some x ∧ Rep F w τ y (a.eval x)) :
    (as.map a.eval).toList.length = ys.length ∧ ∀ (j : Nat) (x : AV), ys[j]? = some x → Rep F w (fun _ => none) x ((as.map a.eval).toList.getD j undef) := by
  refine ⟨by simp [hl], fun j x hx => ?_⟩
  obtain ⟨o, ho, hro⟩ := hr j x hx
  have : (as.map a.eval).toList.getD j undef = a.eval o := by
    rw [Array.toList_map, List.getD_eq_getElem?_getD, List.getElem?_map, ho]; rfl
  rw [this]
  exact hro.pure (pureL_at hp j x hx)

/-- Behind a call: what the callee has made may be read. -/
theorem RelA.called {cx τ F F' s a w w'} (h : RelA cx τ F s a w) (hb : Below w.heap.size w w') (h1 : ∀ k, F k → F' k) (h2 : ∀ k, F' k → F k ∨ w.heap.size ≤ k) (h3 : ∀ k, F' k → k < w'.heap.size) : RelA cx τ F' s a w' := by
  refine (h.later hb).more h1 h3 (fun k id v hk hv e => ?_) (fun k hk => ?_)
  · rcases h2 k hk with h' | h'
    · exact h.wr.fne k id v h' hv e
    · have := (h.wr.tlt id v k hv e).2; omega
  · rcases h2 k hk with h' | h'
    · exact h.wr.fsub k h'
    · exact .inr (Nat.le_trans h.wr.keeps.size h')

theorem zero_run {P : Program} {t : Nat} {vs : List Value} (h : zeroCells P t = some vs) (w : World) : (Instr.alloc t true (.tuple #[])).run P w = .ok (.pointer (some ⟨w.heap.size, 0, none⟩)) (w.alloc (.cells vs.toArray t)) := by
  unfold zeroCells at h
  cases hi : P.info? t with
  | none => rw [hi] at h; cases h
  | some i =>
    cases hz : i.zero with
    | none => rw [hi] at h; simp [hz] at h
    | some z =>
      rw [hi] at h; simp [hz] at h
      subst h
      simp [Instr.alloc, zeroValue, typeInfo, hi, hz, newVar, newRow]

theorem size1 {P : Program} {t : Nat} (h : (match P.info? t with | some i => i.size == 1 | none => false) = true) : ∃ i, P.info? t = some i ∧ i.size = 1 := by
  split at h
  · rename_i i hi; exact ⟨i, hi, by simpa using h⟩
  · cases h

theorem aggSize_info {P : Program} {t : Nat} {ti : TI} (h : ti.okB P t = true) : ∃ i, P.info? t = some i ∧ i.size = ti.aggSize := by
  cases ti with
  | scalar => simp only [TI.okB, Bool.and_eq_true] at h; exact size1 h.2
  | int k => simp only [TI.okB, Bool.and_eq_true] at h; exact size1 h.2
  | bool => simp only [TI.okB, Bool.and_eq_true] at h; exact size1 h.2
  | slice e n => simp only [TI.okB, Bool.and_eq_true] at h; exact size1 h.2
  | struct size offs => obtain ⟨fs, i, _, h1, h2, _⟩ := ok_struct h; exact ⟨i, h1, h2⟩
  | array n e _ => obtain ⟨_, _, j, _, _, _, h1, h2, _⟩ := ok_array h; exact ⟨j, h1, h2⟩

theorem box_new {cx τ F s a w} (h : RelA cx τ F s a w) {d : Nat} (hd : d < cx.n) (hf : look s.heap d = none) {cs : List AV} {c : Array Value} (t : Nat) (hsz : c.size = cs.length)
    (hrep : ∀ (j : Nat) (x : AV), cs[j]? = some x → Rep F w τ x (c.getD j undef)) :
    Rel cx (s.new d (.obj d 0) (.cells cs)) (a.put (some d) (.pointer (some ⟨w.heap.size, 0, none⟩))) (w.alloc (.cells c t)) := by
  have hb := below_alloc w (.cells c t)
  refine h.new hd hf (v := .pointer (some ⟨w.heap.size, 0, none⟩)) hb (fun b hb => ?_) (fun τ' hτ hτd => ⟨⟨w.heap.size, c, t, rfl, heap_alloc_new w _, hsz, fun j x hx => ?_⟩, .obj _ _ _ _ hτd⟩)
  · simp only [hblk, Option.some.injEq] at hb; subst hb; simp
  · exact (hrep j x hx).mono (fun _ h => h) (fun k hk => hb.block k (h.wr.fz k hk)) hτ

/-- The soundness of one operation in its turn. -/
theorem aop_sound (B : Tabs) {cx : Cx} (hP : cx.P = B.P) {s : St} {o : Oper} {K : St → Prop} (h : aop B cx.n s o.op o.dst K) {a : Act} {w : World} (hr : Rel cx s a w)
    {next : Act → World → Prop} {Q : Exit → Act → World → Prop} (hn : ∀ s' a' w', K s' → Rel cx s' a' w' → next a' w') : o.wp cx.P a w next Q := by
  obtain ⟨τ, F, hr⟩ := hr
  rw [hP]
  have quiet : ∀ d, o.dst = some d → chk (Nat.blt d cx.n) (qop B.T true s o.op fun y => K (s.put d y)) → o.wp B.P a w next Q := by
    intro d hdst h
    obtain ⟨hd, h⟩ := chk_spec h
    have hd := blt_lt hd
    obtain ⟨y, hy, hs⟩ := qop_sound B.hT h
    obtain ⟨v, h1, h2⟩ := hs cx τ F w a rfl hr
    unfold Oper.wp
    rw [h2 o rfl w (Below.refl _ _), Oper.upon_value, hdst]
    exact hn _ _ _ hy ⟨τ, F, hr.put d y v h1 hd⟩
  unfold aop at h
  split at h
  case h_1 f as ts d hop hdst =>
    obtain ⟨hd, h⟩ := chk_spec h
    have hd := blt_lt hd
    obtain ⟨ys, h, hl, hs⟩ := agets_sound h
    obtain ⟨hp, y, hc, hK⟩ := chk_spec h
    obtain ⟨hpy, hK⟩ := chk_spec hK
    obtain ⟨hfn, hcall⟩ := hc rfl
    obtain ⟨l1, l2⟩ := args_rep hl hp (hs F τ w cx.n a rfl hr.env)
    unfold Oper.wp
    rw [call_run hfn hop, Oper.upon_enter]
    have := hcall F w (as.map a.eval).toList hr.wr.fz l1 l2
    rw [Array.toArray_toList] at this
    refine this.mono fun e w' ⟨v, F', he, hb, q1, q2, q3, q4⟩ => ?_
    subst he
    show next (a.put o.dst v) w'
    rw [hdst]
    exact hn _ _ _ hK ⟨τ, F', (hr.called hb q1 q2 q3).put d y v (q4.pure hpy) hd⟩
  case h_2 t d hop hdst =>
    obtain ⟨hd, h⟩ := chk_spec h
    have hd := blt_lt hd
    obtain ⟨hf, h⟩ := chk_spec h
    have hf := Option.isNone_iff_eq_none.1 hf
    split at h
    · rename_i vs hl
      have hz := B.hZ.at_ hl
      unfold Oper.wp
      simp only [execOp, hop]
      rw [exec_value (zero_run hz w), Oper.upon_value, hdst]
      refine hn _ _ _ h (box_new hr hd hf t (by simp) fun j x hx => ?_)
      rw [List.getElem?_map] at hx
      cases hv : vs[j]? with
      | none => rw [hv] at hx; cases hx
      | some v =>
        rw [hv] at hx; injection hx with hx; subst hx
        have : vs.toArray.getD j undef = v := by simp [hv]
        rw [this]; exact .val _ _
    · exact h.elim
  case h_3 t x d hop hdst =>
    obtain ⟨hd, h⟩ := chk_spec h
    have hd := blt_lt hd
    obtain ⟨hf, h⟩ := chk_spec h
    have hf := Option.isNone_iff_eq_none.1 hf
    obtain ⟨xv, h, hx⟩ := aget_sound h
    obtain ⟨cs, h, hc⟩ := cellsV_sound h
    obtain ⟨hsz, hrep⟩ := hc F w τ _ (hx F τ w cx.n a rfl hr.env)
    unfold Oper.wp
    simp only [execOp, hop]
    have hrun : (Instr.box t (a.eval x)).run B.P w = .ok (.pointer (some ⟨w.heap.size, 0, none⟩)) (w.alloc (.cells (a.eval x).cells t)) := by
      simp [Instr.box, newVar, newRow]
    rw [exec_value hrun, Oper.upon_value, hdst]
    exact hn _ _ _ h (box_new hr hd hf t hsz hrep)
  case h_4 t x y hop hdst =>
    obtain ⟨xv, h, hx⟩ := aget_sound h
    obtain ⟨yv, h, hy⟩ := aget_sound h
    obtain ⟨cs, h, hc⟩ := cellsV_sound h
    obtain ⟨hsz, hrep⟩ := hc F w τ _ (hy F τ w cx.n a rfl hr.env)
    split at h
    · rename_i id off
      split at h
      · rename_i old ti hl ht
        obtain ⟨h1, h⟩ := chk_spec h
        obtain ⟨h2, h⟩ := chk_spec h
        obtain ⟨h3, h⟩ := chk_spec h
        have h1 := Nat.le_of_ble_eq_true h1
        have h2 := Nat.eq_of_beq_eq_true h2
        have hxr := hx F τ w cx.n a rfl hr.env
        generalize hxe : a.eval x = xval at hxr
        cases hxr with
        | obj _ _ _ b hb =>
          obtain ⟨w', hw1, hw2⟩ := hr.write hl hb h1 hsz hrep h3
          obtain ⟨i, hi, his⟩ := aggSize_info (tabB_look B.hT ht)
          unfold Oper.wp
          have hrun : (execOp a.eval o).run B.P w = .ok .skip w' := by
            rw [hP] at hw1
            simp only [execOp, hop, hxe, Instr.storeAt, Instr.sureAddr, storeVar, Sem.run_bind, Sem.run_pure, Result.andThen_ok, sizeOf_run hi, his, h2, hsz, ne_eq, not_true_eq_false, if_false]
            simp [hw1]
          rw [hrun, Oper.upon_skip, hdst]
          exact hn _ _ _ h ⟨τ, F, hw2⟩
      · exact h.elim
    · exact h.elim
  case h_5 d hdst _ _ _ => exact quiet d hdst h
  case h_6 => exact h.elim

theorem wanted_guard {F : Nat → Prop} {τ : Nat → Option Value} {w : World} {n : Nat} {ops : List Oper} {s : St} {a : Act} {o : Oper} {i : Nat} {b : Bool} {K : Bool → Prop} (ho : o.guard = some (i, b)) (h : guardB ops s i b K) (he : EnvR F τ w n s.env a.tmps) :
    ∃ g, K g ∧ Region.wanted o (yielded ops.toArray a.tmps) = g := by
  unfold guardB at h
  split at h
  · rename_i d hd
    have hy : ∀ v, a.tmps.getD d undef = v → v ≠ undef → yielded ops.toArray a.tmps i = (match v with | .bool b => some b | _ => none) := by
      intro v hv hne
      have hlt : d < a.tmps.size := by
        rcases Nat.lt_or_ge d a.tmps.size with h | h
        · exact h
        · simp [Array.getElem?_eq_none h] at hv
          exact absurd hv.symm hne
      have h2 : a.tmps[d]? = some v := by
        have e : a.tmps[d]? = some a.tmps[d] := Array.getElem?_eq_getElem hlt
        rw [e]
        simp [hlt] at hv
        rw [hv]
      have hd' : (ops.toArray[i]?).bind (·.dst) = some d := by simpa using hd
      unfold yielded
      rw [hd', Option.bind_some, h2]
      cases v <;> rfl
    split at h
    · rename_i x hl
      have hr := (he d _ hl).2
      generalize hv : a.tmps.getD d undef = v at hr
      cases hr
      refine ⟨_, h, ?_⟩
      unfold Region.wanted
      rw [ho]
      simp only [hy _ hv (by simp [undef])]
      cases x <;> cases b <;> rfl
    · rename_i g x hl
      have hr := (he d _ hl).2
      generalize hv : a.tmps.getD d undef = v at hr
      refine ⟨_, h, ?_⟩
      unfold Region.wanted
      rw [ho]
      cases hr with
      | condT _ _ _ hr =>
        cases hr
        simp only [hy _ hv (by simp [undef])]
        cases x <;> cases b <;> rfl
      | condF =>
        have hy2 : yielded ops.toArray a.tmps i = none := by
          have hd' : (ops.toArray[i]?).bind (·.dst) = some d := by simpa using hd
          unfold yielded
          rw [hd', Option.bind_some]
          cases h2 : a.tmps[d]? with
          | none => rfl
          | some u =>
            have : a.tmps.getD d undef = u := by simp [h2]
            rw [hv] at this; subst this; rfl
        simp only [hy2]
        cases x <;> cases b <;> rfl
    · exact h.elim
  · exact h.elim

theorem aopG_sound (B : Tabs) {cx : Cx} (hP : cx.P = B.P) {s : St} {o : Oper} {K : St → Prop} {g : Bool} (h : aopG B cx.n g s o.op o.dst K) {a : Act} {w : World} (hr : Rel cx s a w)
    {next : Act → World → Prop} {Q : Exit → Act → World → Prop} (hn : ∀ s' a' w', K s' → Rel cx s' a' w' → next a' w') :
    (g = true → o.wp cx.P a w next Q) ∧ (g = false → next (a.put o.dst undef) w) := by
  obtain ⟨τ, F, hr⟩ := hr
  rw [hP]
  have quiet : ∀ d, o.dst = some d → chk (Nat.blt d cx.n) (qop B.T g s o.op fun y => K (s.put d (.cond g y))) → (g = true → o.wp B.P a w next Q) ∧ (g = false → next (a.put o.dst undef) w) := by
    intro d hdst h
    obtain ⟨hd, h⟩ := chk_spec h
    have hd := blt_lt hd
    obtain ⟨y, hy, hs⟩ := qop_sound B.hT h
    refine ⟨fun hg => ?_, fun hg => ?_⟩
    · obtain ⟨v, h1, h2⟩ := hs cx τ F w a hg hr
      unfold Oper.wp
      rw [h2 o rfl w (Below.refl _ _), Oper.upon_value, hdst]
      subst hg
      exact hn _ _ _ hy ⟨τ, F, hr.put d _ v (.condT _ _ _ h1) hd⟩
    · subst hg
      rw [hdst]
      exact hn _ _ _ hy ⟨τ, F, hr.put d _ undef (.condF _ _) hd⟩
  unfold aopG at h
  split at h
  case h_1 f as ts d hop hdst =>
    obtain ⟨hd, h⟩ := chk_spec h
    have hd := blt_lt hd
    obtain ⟨ys, h, hl, hs⟩ := agets_sound h
    obtain ⟨hp, y, hc, hK⟩ := chk_spec h
    obtain ⟨hpy, hK⟩ := chk_spec hK
    refine ⟨fun hg => ?_, fun hg => ?_⟩
    · obtain ⟨hfn, hcall⟩ := hc hg
      obtain ⟨l1, l2⟩ := args_rep hl hp (hs F τ w cx.n a hg hr.env)
      unfold Oper.wp
      rw [call_run hfn hop, Oper.upon_enter]
      have := hcall F w (as.map a.eval).toList hr.wr.fz l1 l2
      rw [Array.toArray_toList] at this
      refine this.mono fun e w' ⟨v, F', he, hb, q1, q2, q3, q4⟩ => ?_
      subst he
      show next (a.put o.dst v) w'
      rw [hdst]
      subst hg
      exact hn _ _ _ hK ⟨τ, F', (hr.called hb q1 q2 q3).put d _ v (.condT _ _ _ (q4.pure hpy)) hd⟩
    · subst hg
      rw [hdst]
      exact hn _ _ _ hK ⟨τ, F, hr.put d _ undef (.condF _ _) hd⟩
  case h_2 d hdst _ => exact quiet d hdst h
  case h_3 => exact h.elim

theorem aops_sound (B : Tabs) {cx : Cx} (hP : cx.P = B.P) {ops : List Oper} {Q : Exit → Act → World → Prop} : ∀ (l : List Oper) {s : St} {K : St → Prop}, aops B cx.n ops l s K → ∀ {a : Act} {w : World}, Rel cx s a w →
    (∀ s' a' w', K s' → Rel cx s' a' w' → Q .normal a' w') → wpList cx.P ops.toArray Q l a w
  | [], s, K, h, a, w, hr, hQ => hQ _ _ _ h hr
  | o :: r, s, K, h, a, w, hr, hQ => by
    simp only [wpList]
    unfold aops at h
    split at h
    · rename_i hg
      have hw : Region.wanted o (yielded ops.toArray a.tmps) = true := by unfold Region.wanted; rw [hg]
      rw [if_pos hw]
      exact .inl (aop_sound B hP h hr fun s' a' w' hK hr' => aops_sound B hP r hK hr' hQ)
    · rename_i i b hg
      have hr0 := hr
      obtain ⟨τ, F, hr1⟩ := hr
      obtain ⟨g, hG, hw⟩ := wanted_guard hg h hr1.env
      obtain ⟨h1, h2⟩ := aopG_sound B hP (Q := Q) hG hr0 (next := wpList cx.P ops.toArray Q r) fun s' a' w' hK hr' => aops_sound B hP r hK hr' hQ
      rw [hw]
      cases g with
      | true => rw [if_pos rfl]; exact .inl (h1 rfl)
      | false => rw [if_neg (by simp)]; exact h2 rfl
end Go.Abs

namespace Go.Abs
open Go Go.RowKit
set_option linter.unusedVariables false

mutual
/-- The one value that fits, where there is just one. -/
def AV.exact : AV → Option Value
  | .val v => some v
  | .agg cs => (AV.exactL cs).map fun vs => .agg vs.toArray
  | .tup cs => (AV.exactL cs).map fun vs => .tuple vs.toArray
  | _ => none
def AV.exactL : List AV → Option (List Value)
  | [] => some []
  | x :: r => match AV.exact x, AV.exactL r with
    | some v, some vs => some (v :: vs)
    | _, _ => none
end

def Exact (x : AV) (v : Value) : Prop := ∀ F w τ, Rep F w τ x v ∧ ∀ u, Rep F w τ x u → u = v

mutual
theorem exact_spec : ∀ (x : AV) (v : Value), x.exact = some v → Exact x v
  | .val v, u, h => by
    simp only [AV.exact, Option.some.injEq] at h; subst h
    exact fun F w τ => ⟨.val _ _, fun u hu => by cases hu; rfl⟩
  | .agg cs, u, h => by
    simp only [AV.exact, Option.map_eq_some_iff] at h
    obtain ⟨vs, h, rfl⟩ := h
    obtain ⟨hl, hs⟩ := exactL_spec cs vs h
    refine fun F w τ => ⟨.agg _ _ _ (by simpa using hl.symm) (fun j c hc => ?_), fun u hu => ?_⟩
    · have := (hs j c hc F w τ).1; simpa using this
    · cases hu with
      | agg _ _ us ul uh =>
        congr 1
        apply Array.ext
        · simp [← ul, ← hl]
        · intro j h1 h2
          have hj : j < cs.length := by omega
          have e := (hs j _ (List.getElem?_eq_getElem hj) F w τ).2 _ (uh j _ (List.getElem?_eq_getElem hj))
          have h3 : j < vs.length := by omega
          simp [h1, h3] at e
          simpa using e
  | .tup cs, u, h => by
    simp only [AV.exact, Option.map_eq_some_iff] at h
    obtain ⟨vs, h, rfl⟩ := h
    obtain ⟨hl, hs⟩ := exactL_spec cs vs h
    refine fun F w τ => ⟨.tup _ _ _ (by simpa using hl.symm) (fun j c hc => ?_), fun u hu => ?_⟩
    · have := (hs j c hc F w τ).1; simpa using this
    · cases hu with
      | tup _ _ us ul uh =>
        congr 1
        apply Array.ext
        · simp [← ul, ← hl]
        · intro j h1 h2
          have hj : j < cs.length := by omega
          have e := (hs j _ (List.getElem?_eq_getElem hj) F w τ).2 _ (uh j _ (List.getElem?_eq_getElem hj))
          have h3 : j < vs.length := by omega
          simp [h1, h3] at e
          simpa using e
  | .ro _ _ _, u, h => by simp [AV.exact] at h
  | .ptr _, u, h => by simp [AV.exact] at h
  | .obj _ _, u, h => by simp [AV.exact] at h
  | .sl _ _, u, h => by simp [AV.exact] at h
  | .cond _ _, u, h => by simp [AV.exact] at h
  | .any, u, h => by simp [AV.exact] at h
theorem exactL_spec : ∀ (cs : List AV) (vs : List Value), AV.exactL cs = some vs → vs.length = cs.length ∧ ∀ (j : Nat) (c : AV), cs[j]? = some c → Exact c (vs.getD j undef)
  | [], vs, h => by simp only [AV.exactL, Option.some.injEq] at h; subst h; exact ⟨rfl, fun j c hc => by simp at hc⟩
  | x :: r, vs, h => by
    simp only [AV.exactL] at h
    split at h
    · rename_i v vs' hv hvs
      injection h with h; subst h
      obtain ⟨hl, hs⟩ := exactL_spec r vs' hvs
      refine ⟨by simp [hl], fun j c hc => ?_⟩
      cases j with
      | zero => simp at hc; subst hc; exact exact_spec x v hv
      | succ j => simpa using hs j c (by simpa using hc)
    · cases h
end

/-- One operation of a region that draws its order: it is quiet, or a call with one exact answer. -/
def aopQ (B : Tabs) (n : Nat) (g : Bool) (wrap : AV → AV) (s : St) (op : Op) (d : Option Nat) (K : St → Prop) : Prop :=
  match op, d with
  | .call { callee := .value (.func f), args := as, argTypes := _ }, some d => chk (Nat.blt d n) (agets g s as.toList fun ys => chk (AV.pureL ys) (CallK B.P g f ys fun y => chk (AV.exact y).isSome (K (s.put d (wrap y)))))
  | op, some d => chk (Nat.blt d n) (qop B.T g s op fun y => K (s.put d (wrap y)))
  | _, none => False

def aopsQ (B : Tabs) (n : Nat) (ops : List Oper) : List Oper → St → (St → Prop) → Prop
  | [], s, K => K s
  | o :: r, s, K => match o.guard with
    | none => aopQ B n true (fun y => y) s o.op o.dst fun s' => aopsQ B n ops r s' K
    | some (i, b) => guardB ops s i b fun g => aopQ B n g (fun y => .cond g y) s o.op o.dst fun s' => aopsQ B n ops r s' K

theorem aopQ_sound (B : Tabs) {cx : Cx} (hP : cx.P = B.P) {s : St} {o : Oper} {K : St → Prop} {g : Bool} {wrap : AV → AV} (h : aopQ B cx.n g wrap s o.op o.dst K) (hwrap : g = true → ∀ F w τ y v, Rep F w τ y v → Rep F w τ (wrap y) v)
    (hfalse : g = false → ∀ F w τ y, Rep F w τ (wrap y) undef) {τ F a w} (hr : RelA cx τ F s a w) {next : Act → Prop} (hn : ∀ s' a', K s' → RelA cx τ F s' a' w → next a') :
    (g = true → o.quiet B.P a (fun w' => Below w.heap.size w w') next) ∧ (g = false → next (a.put o.dst undef)) := by
  have quiet : ∀ d, o.dst = some d → chk (Nat.blt d cx.n) (qop B.T g s o.op fun y => K (s.put d (wrap y))) → (g = true → o.quiet B.P a (fun w' => Below w.heap.size w w') next) ∧ (g = false → next (a.put o.dst undef)) := by
    intro d hdst h
    obtain ⟨hd, h⟩ := chk_spec h
    have hd := blt_lt hd
    obtain ⟨y, hy, hs⟩ := qop_sound B.hT h
    refine ⟨fun hg => ?_, fun hg => ?_⟩
    · obtain ⟨v, h1, h2⟩ := hs cx τ F w a hg hr
      refine ⟨v, fun w' hb => ?_, ?_⟩
      · unfold Oper.quietAt
        rw [h2 o rfl w' hb]
        exact ⟨rfl, rfl⟩
      · rw [hdst]; exact hn _ _ hy (hr.put d _ v (hwrap hg _ _ _ _ _ h1) hd)
    · rw [hdst]; exact hn _ _ hy (hr.put d _ undef (hfalse hg _ _ _ _) hd)
  unfold aopQ at h
  split at h
  case h_1 f as ts d hop hdst =>
    obtain ⟨hd, h⟩ := chk_spec h
    have hd := blt_lt hd
    obtain ⟨ys, h, hl, hs⟩ := agets_sound h
    obtain ⟨hp, y, hc, hK⟩ := chk_spec h
    obtain ⟨hpy, hK⟩ := chk_spec hK
    refine ⟨fun hg => ?_, fun hg => ?_⟩
    · obtain ⟨hfn, hcall⟩ := hc hg
      obtain ⟨v, hv⟩ := Option.isSome_iff_exists.1 hpy
      have hex := exact_spec y v hv
      refine ⟨v, fun w' hb => ?_, ?_⟩
      · unfold Oper.quietAt
        rw [call_run hfn hop]
        refine ⟨rfl, ?_⟩
        have hr' := hr.later hb
        obtain ⟨l1, l2⟩ := args_rep hl hp (hs F τ w' cx.n a hg hr'.env)
        have := hcall F w' (as.map a.eval).toList hr'.wr.fz l1 l2
        rw [Array.toArray_toList] at this
        refine this.mono fun e w'' ⟨u, F', he, hb', q1, q2, q3, q4⟩ => ?_
        have := (hex F' w'' (fun _ => none)).2 u q4
        subst this
        exact ⟨he, hb.trans (hb'.mono hb.size)⟩
      · rw [hdst]; exact hn _ _ hK (hr.put d _ v (hwrap hg _ _ _ _ _ (hex F w τ).1) hd)
    · rw [hdst]; exact hn _ _ hK (hr.put d _ undef (hfalse hg _ _ _ _) hd)
  case h_2 d hdst _ => exact quiet d hdst h
  case h_3 => exact h.elim

theorem aopsQ_sound (B : Tabs) {cx : Cx} (hP : cx.P = B.P) {ops : List Oper} {τ F w} {Q : Act → Prop} : ∀ (l : List Oper) {s : St} {K : St → Prop}, aopsQ B cx.n ops l s K → ∀ {a : Act}, RelA cx τ F s a w →
    (∀ s' a', K s' → RelA cx τ F s' a' w → Q a') → wpQuiet B.P ops.toArray (fun w' => Below w.heap.size w w') Q l a
  | [], s, K, h, a, hr, hQ => hQ _ _ h hr
  | o :: r, s, K, h, a, hr, hQ => by
    simp only [wpQuiet]
    unfold aopsQ at h
    split at h
    · rename_i hg
      have hw : Region.wanted o (yielded ops.toArray a.tmps) = true := by unfold Region.wanted; rw [hg]
      rw [if_pos hw]
      exact (aopQ_sound B hP h (fun _ _ _ _ _ _ h => h) (fun h => by cases h) hr fun s' a' hK hr' => aopsQ_sound B hP r hK hr' hQ).1 rfl
    · rename_i i b hg
      obtain ⟨g, hG, hw⟩ := wanted_guard hg h hr.env
      obtain ⟨h1, h2⟩ := aopQ_sound B hP hG (fun hg _ _ _ _ _ h => by subst hg; exact .condT _ _ _ h) (fun hg _ _ _ _ => by subst hg; exact .condF _ _) hr (next := wpQuiet B.P ops.toArray (fun w' => Below w.heap.size w w') Q r) fun s' a' hK hr' => aopsQ_sound B hP r hK hr' hQ
      rw [hw]
      cases g with
      | true => rw [if_pos rfl]; exact h1 rfl
      | false => rw [if_neg (by simp)]; exact h2 rfl

/-! ### The code -/

/-- From every frame and world that is as 's' says, the code comes to an end as 'Q' says. -/
def AWp (B : Tabs) (n : Nat) (c : Code) (s : St) (Q : Exit → St → Prop) : Prop :=
  ∀ cx : Cx, cx.P = B.P → cx.n = n → ∀ a w, Rel cx s a w → c.wp B.P (fun e a' w' => ∃ s', Q e s' ∧ Rel cx s' a' w') a w

section
variable {B : Tabs} {n : Nat} {s : St} {Q : Exit → St → Prop}

theorem AWp.mono {c : Code} {Q' : Exit → St → Prop} (h : AWp B n c s Q) (hq : ∀ e s, Q e s → Q' e s) : AWp B n c s Q' :=
  fun cx hP hn a w hr => wp_mono (h cx hP hn a w hr) fun e a' w' ⟨s', h1, h2⟩ => ⟨s', hq _ _ h1, h2⟩

def Then (K : St → Prop) (Q : Exit → St → Prop) : Exit → St → Prop
  | .normal, s => K s
  | e, s => Q e s

theorem AWp.seq {x y : Code} (h : AWp B n x s (Then (fun s' => AWp B n y s' Q) Q)) : AWp B n (.seq x y) s Q := by
  intro cx hP hn a w hr
  refine wp_seq (wp_mono (h cx hP hn a w hr) fun e a' w' ⟨s', h1, h2⟩ => ?_)
  cases e with
  | normal => exact h1 cx hP hn a' w' h2
  | _ => exact ⟨s', h1, h2⟩

theorem AWp.skip (h : Q .normal s) : AWp B n .skip s Q := fun cx hP hn a w hr => wp_skip ⟨s, h, hr⟩
theorem AWp.exit {id : Nat} (h : Q (.exit id) s) : AWp B n (.exit id) s Q := fun cx hP hn a w hr => wp_exit ⟨s, h, hr⟩
theorem AWp.ret (h : Q .ret s) : AWp B n .ret s Q := fun cx hP hn a w hr => wp_ret ⟨s, h, hr⟩

theorem AWp.cond {c : Operand} {x y : Code} (h : aget true s c fun cv => match cv with
    | .val (.bool b) => (b = true → AWp B n x s Q) ∧ (b = false → AWp B n y s Q)
    | _ => False) : AWp B n (.cond c x y) s Q := by
  intro cx hP hn a w hr
  obtain ⟨cv, h, hc⟩ := aget_sound h
  obtain ⟨τ, F, hr1⟩ := hr
  have h1 := hc F τ w cx.n a rfl hr1.env
  split at h
  · rename_i b
    generalize hce : a.eval c = v at h1
    cases h1
    cases b with
    | true => exact wp_cond_true hce (h.1 rfl cx hP hn a w ⟨τ, F, hr1⟩)
    | false => exact wp_cond_false hce (h.2 rfl cx hP hn a w ⟨τ, F, hr1⟩)
  · exact h.elim

def InBlock (id : Nat) (Q : Exit → St → Prop) : Exit → St → Prop
  | .exit id', s => match Nat.beq id' id with
    | true => Q .normal s
    | false => Q (.exit id') s
  | e, s => Q e s

theorem AWp.block {id : Nat} {c : Code} (h : AWp B n c s (InBlock id Q)) : AWp B n (.block id c) s Q := by
  intro cx hP hn a w hr
  refine wp_block (wp_mono (h cx hP hn a w hr) fun e a' w' ⟨s', h1, h2⟩ => ?_)
  cases e with
  | exit id' =>
    simp only [Exit.inBlock, InBlock] at h1 ⊢
    split
    · rename_i e; subst e; simp only [Nat.beq_refl] at h1; exact ⟨s', h1, h2⟩
    · rename_i e
      have : Nat.beq id' id = false := by
        cases e' : Nat.beq id' id with
        | false => rfl
        | true => exact absurd (Nat.eq_of_beq_eq_true e') e
      rw [this] at h1
      exact ⟨s', h1, h2⟩
  | _ => exact ⟨s', h1, h2⟩

theorem AWp.region {id : Nat} {l : List Oper} (h : aops B n l l s (fun s' => Unit → Q .normal s')) : AWp B n (.region id l.toArray false) s Q := by
  intro cx hP hn a w hr
  subst hn
  rw [← hP]
  exact wp_region_lit (aops_sound B hP l h hr fun s' a' w' hK hr' => ⟨s', hK (), hr'⟩)

theorem AWp.draw {id : Nat} {l : List Oper} (hm : B.P.follows .mixedOrders = true) (hB : Region.lexB .any l.toArray = true) (h : aopsQ B n l l s (fun s' => Unit → Q .normal s')) : AWp B n (.region id l.toArray true) s Q := by
  intro cx hP hn a w hr
  subst hn
  obtain ⟨τ, F, hr⟩ := hr
  have hb0 : Below w.heap.size w { w with drawn := w.drawn + 1 } := ⟨rfl, rfl, rfl, Nat.le_refl _, fun _ _ => rfl⟩
  have hr1 := hr.later hb0
  exact wp_region_quiet (C := fun w' => Below w.heap.size w w') hm hB hb0
    (aopsQ_sound B hP l h hr fun s' a' hK hr' w' hw' => ⟨s', hK (), τ, F, hr'.later hw'⟩)

/-- What is known may be forgotten, own objects too, where nothing that stays leads to them. -/
def subEnv (p : Nat → Bool) (e : List (Nat × AV)) : List (Nat × AV) → Prop
  | [] => True
  | (t, x) :: r => look e t = some x ∧ AV.refsB p x = true ∧ subEnv p e r
def HO.refsB (p : Nat → Bool) : HO → Bool
  | .cells cs => AV.refsL p cs
  | .row _ _ rows => rows.all (AV.refsL p)
def subHeap (p : Nat → Bool) (e : List (Nat × HO)) : List (Nat × HO) → Prop
  | [] => True
  | (t, x) :: r => look e t = some x ∧ HO.refsB p x = true ∧ subHeap p e r
def St.has (s : St) (id : Nat) : Bool := (look s.heap id).isSome
def Sub (s' s : St) : Prop := subEnv s'.has s.env s'.env ∧ subHeap s'.has s.heap s'.heap

theorem subEnv_at {p : Nat → Bool} {e : List (Nat × AV)} : ∀ {l : List (Nat × AV)}, subEnv p e l → ∀ t x, look l t = some x → look e t = some x ∧ AV.refsB p x = true
  | [], _, t, x, h => by cases h
  | (k, y) :: r, h, t, x, hl => by
    rw [look_cons] at hl
    split at hl
    · rename_i hk; subst hk; injection hl with hl; subst hl; exact ⟨h.1, h.2.1⟩
    · exact subEnv_at h.2.2 t x hl
theorem subHeap_at {p : Nat → Bool} {e : List (Nat × HO)} : ∀ {l : List (Nat × HO)}, subHeap p e l → ∀ t x, look l t = some x → look e t = some x ∧ HO.refsB p x = true
  | [], _, t, x, h => by cases h
  | (k, y) :: r, h, t, x, hl => by
    rw [look_cons] at hl
    split at hl
    · rename_i hk; subst hk; injection hl with hl; subst hl; exact ⟨h.1, h.2.1⟩
    · exact subHeap_at h.2.2 t x hl

theorem RelA.sub {cx τ F s s' a w} (h : RelA cx τ F s a w) (hs : Sub s' s) : Rel cx s' a w := by
  let τ' : Nat → Option Value := fun id => if s'.has id = true then τ id else none
  have hτ : ∀ id u, τ' id = some u → s'.has id = true ∧ τ id = some u := fun id u hu => by
    have hu' : (if s'.has id = true then τ id else none) = some u := hu
    split at hu'
    · rename_i e; exact ⟨e, hu'⟩
    · cases hu'
  have hτ2 : ∀ id, s'.has id = true → τ' id = τ id := fun id h => if_pos h
  refine ⟨τ', F, ⟨h.wr.keeps, h.wr.fz, fun k id v hk hv => h.wr.fne k id v hk (hτ id v hv).2, h.wr.fsub, h.wr.fsup, fun id v b hv => h.wr.tlt id v b (hτ id v hv).2, fun id id' v v' b hv hv' => h.wr.inj id id' v v' b (hτ id v hv).2 (hτ id' v' hv').2, fun id o hl => ?_, fun id v hv => ?_⟩, h.size, h.defers, fun t x ht => ?_⟩
  · obtain ⟨hl', hrefs⟩ := subHeap_at hs.2 id o hl
    obtain ⟨v, h1, h2⟩ := h.wr.obj id o hl'
    refine ⟨v, by rw [hτ2 id (by simp [St.has, hl])]; exact h1, ?_⟩
    cases o with
    | cells cs =>
      obtain ⟨b, c, ty, rfl, h3, h4, h5⟩ := h2
      exact ⟨b, c, ty, rfl, h3, h4, fun j x hx => (h5 j x hx).refs hτ2 (refsL_at hrefs j x hx)⟩
    | row e esz rows =>
      obtain ⟨xs, h3, h4⟩ := h2
      refine ⟨xs, h3, fun i r hr => ⟨(h4 i r hr).1, fun j x hx => ((h4 i r hr).2 j x hx).refs hτ2 (refsL_at (List.all_eq_true.1 hrefs r (List.mem_of_getElem? hr)) j x hx)⟩⟩
  · have := (hτ id v hv).1
    exact Option.isSome_iff_exists.1 this
  · obtain ⟨h1, h2⟩ := subEnv_at hs.1 t x ht
    exact ⟨(h.env t x h1).1, (h.env t x h1).2.refs hτ2 h2⟩

theorem AWp.weaken {c : Code} {s' : St} (hs : Sub s' s) (h : AWp B n c s' Q) : AWp B n c s Q :=
  fun cx hP hn a w ⟨_, _, hr⟩ => h cx hP hn a w (hr.sub hs)

theorem least {p : Nat → Prop} (h : ∃ k, p k) : ∃ k, p k ∧ ∀ m, p m → k ≤ m := by
  obtain ⟨k, hk⟩ := h
  induction k using Nat.strongRecOn with
  | _ k ih =>
    by_cases e : ∃ m, m < k ∧ p m
    · obtain ⟨m, h1, h2⟩ := e; exact ih m h1 h2
    · exact ⟨k, hk, fun m hm => Nat.le_of_not_lt fun hlt => e ⟨m, hlt, hm⟩⟩

open Classical in
/-- The least number that a state of the family has that fits. -/
noncomputable def leastMu {ι : Type} (cx : Cx) (I : ι → St) (μ : ι → Nat) (a : Act) (w : World) : Nat :=
  if h : ∃ k, ∃ i, Rel cx (I i) a w ∧ μ i = k then (least h).choose else 0

theorem leastMu_spec {ι : Type} {cx : Cx} {I : ι → St} {μ : ι → Nat} {a : Act} {w : World} (h : ∃ i, Rel cx (I i) a w) : (∃ i, Rel cx (I i) a w ∧ μ i = leastMu cx I μ a w) ∧ ∀ i, Rel cx (I i) a w → leastMu cx I μ a w ≤ μ i := by
  have h' : ∃ k, ∃ i, Rel cx (I i) a w ∧ μ i = k := let ⟨i, hi⟩ := h; ⟨_, i, hi, rfl⟩
  unfold leastMu
  rw [dif_pos h']
  have := (least h').choose_spec
  exact ⟨this.1, fun i hi => this.2 _ ⟨i, hi, rfl⟩⟩

/-- A loop, by a family of states and a number that every round lowers. -/
theorem AWp.loop {ι : Type} {c : Code} (I : ι → St) (p : ι → Prop) (μ : ι → Nat) (i : ι) (hp : p i) (hs : Sub (I i) s)
    (round : ∀ i, p i → AWp B n c (I i) (Then (fun s' => ∃ i', p i' ∧ Sub (I i') s' ∧ μ i' < μ i) Q)) : AWp B n (.loop c) s Q := by
  intro cx hP hn a w ⟨_, _, hr⟩
  let I' : { i // p i } → St := fun i => I i.1
  let μ' : { i // p i } → Nat := fun i => μ i.1
  refine wp_loop (fun a w => ∃ i, Rel cx (I' i) a w) (fun a w => leastMu cx I' μ' a w) ⟨⟨i, hp⟩, hr.sub hs⟩ fun a w hI => ?_
  obtain ⟨⟨i, hi, hmu⟩, _⟩ := leastMu_spec (μ := μ') hI
  refine wp_mono (round i.1 i.2 cx hP hn a w hi) fun e a' w' ⟨s', h1, h2⟩ => ?_
  cases e with
  | normal =>
    obtain ⟨i', hp', hs', hlt⟩ := h1
    obtain ⟨_, _, h2⟩ := h2
    have h3 : Rel cx (I' ⟨i', hp'⟩) a' w' := h2.sub hs'
    refine ⟨⟨⟨i', hp'⟩, h3⟩, ?_⟩
    have h4 := (leastMu_spec (μ := μ') ⟨⟨i', hp'⟩, h3⟩).2 ⟨i', hp'⟩ h3
    have h5 : μ' i = μ i.1 := rfl
    have h6 : μ' ⟨i', hp'⟩ = μ i' := rfl
    omega
  | _ => exact ⟨s', h1, h2⟩
end

/-- The end of a round. -/
theorem round_end {ι : Type} {I : ι → St} {p : ι → Prop} {μ : ι → Nat} {i : ι} {s : St} {Q : Exit → St → Prop} (i' : ι) (hp : p i') (hs : Sub (I i') s) (hμ : μ i' < μ i) :
    Then (fun s' => ∃ i', p i' ∧ Sub (I i') s' ∧ μ i' < μ i) Q .normal s := ⟨i', hp, hs, hμ⟩

theorem CallK.intro {P : Program} {g : Bool} {f : FuncId} {avs : List AV} {K : AV → Prop} {y : AV} (h : g = true → ACallIs P f avs y) (hk : K y) : CallK P g f avs K := ⟨y, h, hk⟩
theorem AWp.out {B : Tabs} {n : Nat} {c : Code} {s : St} {Q : Exit → St → Prop} (h : AWp B n c s Q) : ∀ cx : Cx, cx.P = B.P → cx.n = n → ∀ a w, Rel cx s a w → c.wp B.P (fun e a' w' => ∃ s', Q e s' ∧ Rel cx s' a' w') a w := h
end Go.Abs

namespace Go.Abs
open Go Go.RowKit
set_option linter.unusedVariables false

def enum : Nat → List AV → List (Nat × AV)
  | _, [] => []
  | k, x :: r => (k, x) :: enum (k + 1) r

theorem look_enum : ∀ (xs : List AV) (k t : Nat) (x : AV), look (enum k xs) t = some x → k ≤ t ∧ xs[t - k]? = some x
  | [], k, t, x, h => by cases h
  | y :: r, k, t, x, h => by
    simp only [enum] at h
    rw [look_cons] at h
    split at h
    · rename_i e; subst e; injection h with h; subst h; exact ⟨Nat.le_refl _, by simp⟩
    · rename_i e
      obtain ⟨h1, h2⟩ := look_enum r (k + 1) t x h
      refine ⟨by omega, ?_⟩
      rw [show t - k = (t - (k + 1)) + 1 by omega, List.getElem?_cons_succ]
      exact h2

/-- One result: a slot, or a variable. -/
def res1 (T : List (Nat × TI)) (s : St) (rv : ResultVar) (K : AV → Prop) : Prop :=
  match rv with
  | .tmp t => (match look s.env t with | some x => uncond true x K | none => False)
  | .cell t ty => (match look s.env t with | some x => loadv T true s ty x K | none => False)

def resAll (T : List (Nat × TI)) (s : St) : List ResultVar → (List AV → Prop) → Prop
  | [], K => K []
  | rv :: r, K => res1 T s rv fun x => resAll T s r fun xs => K (x :: xs)

def tupOf (xs : List AV) : AV := match xs with | [x] => x | xs => .tup xs

/-- The frame has come to its end and hands back 'r'. -/
def Ends (B : Tabs) (rvs : List ResultVar) (r : AV) : Exit → St → Prop := fun e s => (e = .ret ∨ e = .normal) ∧ AV.pureB r = true ∧ resAll B.T s rvs fun xs => Unit → tupOf xs = r

def resF (tmps : Array Value) : ResultVar → Sem Value
  | .tmp t => pure (tmps.getD t undef)
  | .cell a t => do loadVar t (← asAddr (tmps.getD a undef))

theorem loadv_addr {T : List (Nat × TI)} {g : Bool} {s : St} {t : Nat} {x : AV} {K : AV → Prop} (h : loadv T g s t x K) : ∀ cx τ F w u, RelW cx τ F s w → Rep F w τ x u → ∃ a, u = .pointer (some a) := by
  intro cx τ F w u hw hr
  obtain ⟨cs, _, hk⟩ := cellsAt_sound h
  obtain ⟨b, o, e, _⟩ := hk cx τ F w u hw hr
  exact ⟨_, e⟩

theorem res1_sound {B : Tabs} {s : St} {rv : ResultVar} {K : AV → Prop} (h : res1 B.T s rv K) : ∃ x, K x ∧ ∀ cx τ F a w, RelA cx τ F s a w → ∃ v, Rep F w τ x v ∧ (resF a.tmps rv).run B.P w = .ok v w := by
  cases rv with
  | tmp t =>
    simp only [res1] at h
    cases hl : look s.env t with
    | none => rw [hl] at h; exact h.elim
    | some x =>
      rw [hl] at h
      obtain ⟨y, hy, hs⟩ := uncond_sound h
      exact ⟨y, hy, fun cx τ F a w hr => ⟨_, hs F τ w _ rfl (hr.env t x hl).2, rfl⟩⟩
  | cell t ty =>
    simp only [res1] at h
    cases hl : look s.env t with
    | none => rw [hl] at h; exact h.elim
    | some x =>
      rw [hl] at h
      have h' : loadv B.T true s ty x K := h
      obtain ⟨y, hy, hs⟩ := loadv_sound B.hT h'
      refine ⟨y, hy, fun cx τ F a w hr => ?_⟩
      obtain ⟨v, h1, h2⟩ := hs cx τ F w _ rfl hr.wr (hr.env t x hl).2
      refine ⟨v, h1, ?_⟩
      have h3 := h2 w (Below.refl _ _)
      obtain ⟨ad, e⟩ := loadv_addr h' cx τ F w _ hr.wr (hr.env t x hl).2
      show (do loadVar ty (← asAddr (a.tmps.getD t undef)) : Sem Value).run B.P w = .ok v w
      rw [e] at h3 ⊢
      simpa [Instr.loadAt, Instr.sureAddr, asAddr] using h3

theorem resAll_sound {B : Tabs} {s : St} : ∀ (rvs : List ResultVar) {K : List AV → Prop}, resAll B.T s rvs K → ∃ xs, K xs ∧ xs.length = rvs.length ∧ ∀ cx τ F a w, RelA cx τ F s a w → ∃ vs : List Value, vs.length = xs.length ∧ (∀ (j : Nat) (x : AV), xs[j]? = some x → Rep F w τ x (vs.getD j undef)) ∧
    (rvs.mapM (resF a.tmps)).run B.P w = .ok vs w
  | [], K, h => ⟨[], h, rfl, fun cx τ F a w hr => ⟨[], rfl, fun j x hx => by simp at hx, rfl⟩⟩
  | rv :: r, K, h => by
    obtain ⟨x, h, hx⟩ := res1_sound h
    obtain ⟨xs, hK, hl, hs⟩ := resAll_sound r h
    refine ⟨x :: xs, hK, by simp [hl], fun cx τ F a w hr => ?_⟩
    obtain ⟨v, h1, h2⟩ := hx cx τ F a w hr
    obtain ⟨vs, h3, h4, h5⟩ := hs cx τ F a w hr
    refine ⟨v :: vs, by simp [h3], fun j y hy => ?_, ?_⟩
    · cases j with
      | zero => simp at hy; subst hy; exact h1
      | succ j => simpa using h4 j y (by simpa using hy)
    · rw [List.mapM_cons]
      simp only [Sem.run_bind]
      rw [h2]
      simp only [Result.andThen_ok]
      rw [h5]
      rfl

/-- Some value is as 'x' says. -/
def Real (x : AV) : Prop := ∃ F w τ v, Rep F w τ x v
theorem Real.len {sz n : Nat} {row : Nat → List AV} (h : Real (.ro sz n row)) : n ≤ maxLen := by
  obtain ⟨F, w, τ, v, h⟩ := h
  cases h with
  | ro _ _ _ _ A c f h1 h2 => exact Nat.le_trans h1 h2
theorem Real.row {sz n : Nat} {row : Nat → List AV} (h : Real (.ro sz n row)) {i j : Nat} {x : AV} (hi : i < n) (hx : (row i)[j]? = some x) : Real x := by
  obtain ⟨F, w, τ, v, h⟩ := h
  cases h with
  | ro _ _ _ _ A c f h1 h2 h3 h4 h5 => exact ⟨F, w, _, _, h5 i j x hi hx⟩
theorem Real.agg {cs : List AV} (h : Real (.agg cs)) {j : Nat} {x : AV} (hx : cs[j]? = some x) : Real x := by
  obtain ⟨F, w, τ, v, h⟩ := h
  cases h with
  | agg _ _ vs h1 h2 => exact ⟨F, w, _, _, h2 j x hx⟩
def Reals : List AV → Prop
  | [] => True
  | x :: r => Real x ∧ Reals r
theorem reals_of {F : Nat → Prop} {w : World} {τ : Nat → Option Value} : ∀ (avs : List AV) (vs : List Value), (∀ (j : Nat) (x : AV), avs[j]? = some x → Rep F w τ x (vs.getD j undef)) → Reals avs
  | [], _, _ => trivial
  | x :: r, vs, h => ⟨⟨F, w, τ, _, h 0 x rfl⟩, reals_of r (vs.drop 1) fun j y hy => by
      have := h (j + 1) y (by simpa using hy)
      simpa [List.getD_eq_getElem?_getD, List.getElem?_drop, Nat.add_comm] using this⟩

theorem ACallIs.of_body (B : Tabs) {f : FuncId} {fn : Func} {c : Code} {avs : List AV} {r : AV} (hf : B.P.funcs[f]? = some fn) (hb : fn.body = some c) (hnm : (fn.name != "runtime.NumGoroutine") = true) (hl : avs.length ≤ fn.ntmps)
    (h : Reals avs → AWp B fn.ntmps c ⟨enum 0 avs, []⟩ (Ends B fn.results.toList r)) : ACallIs B.P f avs r := by
  refine ⟨by unfold fnB; rw [hf]; simp only [hnm, hb]; rfl, fun F w vs hF hlen hrep => ?_⟩
  let cx : Cx := ⟨B.P, fn.ntmps, F, fun _ => False, w⟩
  refine calls_of_wp hf hb ?_
  have hvs : vs.toArray.size = avs.length := by simpa using hlen
  have hrel : Rel cx ⟨enum 0 avs, []⟩ { tmps := vs.toArray ++ Array.replicate (fn.ntmps - vs.toArray.size) undef, defers := [] } w := by
    refine ⟨fun _ => none, F, ⟨Keeps.refl _ _, hF, (fun _ _ _ _ h => by cases h), (fun k hk => .inl hk), (fun k hk => hk), (fun _ _ _ h => by cases h), (fun _ _ _ _ _ h => by cases h), (fun id o hl => by cases hl), (fun id v hv => by cases hv)⟩, by simp [cx, hvs]; omega, rfl, fun t x ht => ?_⟩
    obtain ⟨_, h2⟩ := look_enum avs 0 t x ht
    simp only [Nat.sub_zero] at h2
    have hlt : t < avs.length := (List.getElem?_eq_some_iff.1 h2).1
    refine ⟨by show t < fn.ntmps; omega, ?_⟩
    have e : (vs.toArray ++ Array.replicate (fn.ntmps - vs.toArray.size) undef).getD t undef = vs.getD t undef := by
      simp only [Array.getD_eq_getD_getElem?]
      rw [Array.getElem?_append_left (by omega)]
      simp
    rw [e]; exact hrep t x h2
  refine wp_mono ((h (reals_of avs vs hrep)).out cx rfl rfl _ w hrel) fun e a' w' ⟨s', ⟨he, hp, hres⟩, hr'⟩ => ?_
  obtain ⟨τ, F', hr'⟩ := hr'
  obtain ⟨xs, hxs, hxl, hs⟩ := resAll_sound _ hres
  obtain ⟨us, h1, h2, h3⟩ := hs cx τ F' a' w' hr'
  have hbel : Below w.heap.size w w' := hr'.wr.keeps.below (fun _ h => h)
  have hrun : ∃ v, (results fn a'.tmps).run B.P w' = .ok v w' ∧ Rep F' w' τ r v := by
    refine ⟨if h : us.toArray.size = 1 then us.toArray[0] else .tuple us.toArray, ?_, ?_⟩
    · have hres : results fn a'.tmps = (do let vs ← fn.results.mapM (resF a'.tmps); pure (if h : vs.size = 1 then vs[0] else .tuple vs)) := by
        unfold results; congr 1
      rw [hres, Array.mapM_eq_mapM_toList]
      simp only [Sem.run_bind, Sem.run_map]
      rw [h3]
      rfl
    · have hxs := hxs ()
      subst hxs
      have tupc : xs.length ≠ 1 → Rep F' w' τ (.tup xs) (if h : us.toArray.size = 1 then us.toArray[0] else .tuple us.toArray) := by
        intro hne
        have hu : us.toArray.size ≠ 1 := by simpa [h1] using hne
        rw [dif_neg hu]
        exact .tup _ _ _ (by simp [h1]) fun j c hc => by simpa using h2 j c hc
      match xs, h1, h2, tupc with
      | [], _, _, tupc => exact tupc (by simp)
      | x :: y :: r, _, _, tupc => exact tupc (by simp)
      | [x], h1, h2, _ =>
        match us, h1, h2 with
        | [u], _, h2 => have h4 := h2 0 x rfl; simp at h4; exact h4
  obtain ⟨v, hv1, hv2⟩ := hrun
  have hfin : ∃ v F'', Ending.returned v = Ending.returned v ∧ Below w.heap.size w w' ∧ (∀ k, F k → F'' k) ∧ (∀ k, F'' k → F k ∨ w.heap.size ≤ k) ∧ (∀ k, F'' k → k < w'.heap.size) ∧ Rep F'' w' (fun _ => none) r v :=
    ⟨v, F', rfl, hbel, hr'.wr.fsup, hr'.wr.fsub, hr'.wr.fz, hv2.pure hp⟩
  have hpost : a'.defers = [] ∧ ∃ v', (results fn a'.tmps).run B.P w' = .ok v' w' ∧ ∃ v F'', Ending.returned v' = Ending.returned v ∧ Below w.heap.size w w' ∧ (∀ k, F k → F'' k) ∧ (∀ k, F'' k → F k ∨ w.heap.size ≤ k) ∧ (∀ k, F'' k → k < w'.heap.size) ∧ Rep F'' w' (fun _ => none) r v :=
    ⟨hr'.defers, v, hv1, v, F', rfl, hbel, hr'.wr.fsup, hr'.wr.fsub, hr'.wr.fz, hv2.pure hp⟩
  rcases he with rfl | rfl
  · exact hpost
  · exact hpost
end Go.Abs
namespace Go.Abs
open Go Go.RowKit
theorem ACallIs.out {P : Program} {f : FuncId} {avs : List AV} {r : AV} (h : ACallIs P f avs r) (F : Nat → Prop) (w : World) (vs : List Value) (hF : ∀ k, F k → k < w.heap.size) (hl : vs.length = avs.length) (hr : ∀ (j : Nat) (x : AV), avs[j]? = some x → Rep F w (fun _ => none) x (vs.getD j undef)) :
    Calls P f vs.toArray w fun e w' => ∃ v F', e = .returned v ∧ Below w.heap.size w w' ∧ (∀ k, F k → F' k) ∧ (∀ k, F' k → F k ∨ w.heap.size ≤ k) ∧ (∀ k, F' k → k < w'.heap.size) ∧ Rep F' w' (fun _ => none) r v := h.2 F w vs hF hl hr

/-- The entry, with what the loaded function says written out. -/
theorem ACallIs.enter (B : Tabs) {f : FuncId} {fn : Func} {c : Code} {avs : List AV} {r : AV} (n : Nat) (rvs : List ResultVar) (hf : B.P.funcs[f]? = some fn) (hb : fn.body = some c) (hnm : (fn.name != "runtime.NumGoroutine") = true) (hn : fn.ntmps = n) (hrv : fn.results = rvs.toArray) (hl : avs.length ≤ n)
    (h : Reals avs → AWp B n c ⟨enum 0 avs, []⟩ (Ends B rvs r)) : ACallIs B.P f avs r := by
  subst hn
  refine ACallIs.of_body B hf hb hnm hl fun hr => ?_
  rw [hrv]
  exact h hr
end Go.Abs
attribute [irreducible] Go.Abs.AWp Go.Abs.CallK Go.Abs.ACallIs
