/- One operation, regions, code, calls: their rules over what is known. No condition. -/
import Derived.Test.YtdilfbdfefppbaaAbs
import Derived.Laws.CopyRow
import Derived.Maps.AppendAt
import Derived.Great.FillDense
import Derived.Great.BuildSlice
import Derived.Tactics
set_option linter.unusedVariables false
set_option linter.unusedSimpArgs false
namespace Go.Abs
open Go Go.RowKit
set_option linter.unusedVariables false

def fnB (P : Program) (f : FuncId) : Bool :=
  match P.funcs[f]? with
  | some fn => fn.name != "runtime.NumGoroutine" && fn.body.isSome
  | none => false

/-- The contract of a function that writes nothing of old: called with such values it hands back such a value. -/
def ACallIs (P : Program) (f : FuncId) (avs : List AV) (r : AV) : Prop :=
  fnB P f = true ∧ ∀ (F : Nat → Prop) (w : World) (vs : List Value), (∀ k, F k → k < w.heap.size) → vs.length = avs.length → (∀ (j : Nat) (x : AV), avs[j]? = some x → Rep F w (fun _ => none) x (vs.getD j undef)) →
    Calls P f vs.toArray w fun e w' => ∃ v F', e = .returned v ∧ Below w.heap.size w w' ∧ (∀ k, F k → F' k) ∧ (∀ k, F' k → F k ∨ w.heap.size ≤ k) ∧ (∀ k, F' k → k < w'.heap.size) ∧ Rep F' w' (fun _ => none) r v

def CallK (P : Program) (g : Bool) (f : FuncId) (avs : List AV) (K : AV → Prop) : Prop := ∃ y, (g = true → ACallIs P f avs y) ∧ K y
@[congr] theorem CallK_congr {P : Program} {g g' : Bool} {f : FuncId} {avs avs' : List AV} {K : AV → Prop} (hg : g = g') (h : avs = avs') : CallK P g f avs K = CallK P g' f avs' K := by rw [hg, h]

/-- What a value's cells are. -/
def cellsV (x : AV) (K : List AV → Prop) : Prop :=
  match x with
  | .agg cs => K cs
  | .val v => chk v.oneCell' (K [.val v])
  | .ro sz n row => K [.ro sz n row]
  | .ptr cs => K [.ptr cs]
  | .obj id off => K [.obj id off]
  | .sl id n => K [.sl id n]
  | .rp id esz i off => K [.rp id esz i off]
  | _ => False

def AV.oneB : AV → Bool
  | .val v => v.oneCell'
  | .ro _ _ _ | .ptr _ | .obj _ _ | .sl _ _ | .rp _ _ _ _ => true
  | _ => false

def zeroCells (P : Program) (t : Nat) : Option (List Value) := ((P.info? t).bind (·.zero)).map (·.cells.toList)
def ZOK (P : Program) : List (Nat × List Value) → Prop
  | [] => True
  | (t, vs) :: r => zeroCells P t = some vs ∧ ZOK P r
theorem ZOK.at_ {P : Program} : ∀ {Z : List (Nat × List Value)}, ZOK P Z → ∀ {t vs}, look Z t = some vs → zeroCells P t = some vs
  | [], _, _, _, h => by cases h
  | (k, vs') :: r, hz, t, vs, h => by
    rw [look_cons] at h
    split at h
    · rename_i e; subst e; injection h with h; subst h; exact hz.1
    · exact hz.2.at_ h

def St.put (s : St) (d : Nat) (x : AV) : St := { s with env := (d, x) :: s.env }
def St.new (s : St) (d : Nat) (x : AV) (o : HO) : St := { env := (d, x) :: s.env, heap := (d, o) :: s.heap }
def setHeap {α : Type} (h : List (Nat × α)) (id : Nat) (o : α) : List (Nat × α) :=
  match h with
  | [] => []
  | (k, v) :: r => if id = k then (k, o) :: r else (k, v) :: setHeap r id o

/-- The tables that go with a program. -/
structure Tabs where
  P : Program
  T : List (Nat × TI)
  Z : List (Nat × List Value)
  hT : tabB P T = true
  hZ : ZOK P Z

/-- The parts of a slice literal: all, in their order. -/
def partsV (s : St) (esz : Nat) : Nat → List (Nat × Operand) → (List (List AV) → Prop) → Prop
  | _, [], K => K []
  | k, (i, x) :: r, K => chk (Nat.beq i k) (aget true s x fun xv => cellsV xv fun cs => chk (Nat.beq cs.length esz) (chk (AV.pureL cs) (partsV s esz (k + 1) r fun rs => K (cs :: rs))))

def AV.keep (p : Nat → Bool) (x : AV) : AV := bif AV.refsB p x then x else .any
def HO.keep (p : Nat → Bool) (o : HO) : HO :=
  match o with
  | .cells cs => .cells (cs.map (AV.keep p))
  | .row e esz n f => .row e esz n f
/-- An own object is let go, and whatever leads to it. -/
def St.drop (s : St) (id : Nat) : St :=
  { env := s.env.map fun x => (x.1, x.2.keep fun k => !Nat.beq k id), heap := (s.heap.filter fun x => !Nat.beq x.1 id).map fun x => (x.1, x.2.keep fun k => !Nat.beq k id) }

/-- What is appended: how many, row by row. -/
def srcV (s : St) (e esz : Nat) (y : AV) (K : Nat → (Nat → List AV) → Prop) : Prop :=
  match y with
  | .val (.slice none 0 0) => K 0 fun _ => []
  | .ro sz m row => chk (Nat.beq sz esz) ((∀ i, i < m → (row i).all AV.oneB = true) ∧ K m row)
  | .sl id m => match look s.heap id with
    | some (.row e' esz' n row) => chk (Nat.beq esz' esz) (chk (Nat.beq e' e) (m ≤ n ∧ (∀ i, i < m → (row i).all AV.oneB = true) ∧ K m row))
    | _ => False
  | _ => False

def appV (s : St) (d e esz by_ : Nat) (x : AV) (m : Nat) (row : Nat → List AV) (K : St → Prop) : Prop :=
  match x with
  | .val (.slice none 0 0) => m * by_ ≤ 140737488355328 ∧ K (s.new d (.sl d m) (.row e esz m row))
  | .sl id n => match look s.heap id with
    | some (.row e' esz' n' row') => chk (Nat.beq esz' esz) (chk (Nat.beq e' e) (chk (!Nat.beq id d) (n = n' ∧ (n + m) * by_ ≤ 140737488355328 ∧ K ((s.drop id).new d (.sl d (n + m)) (.row e esz (n + m) fun i => if i < n then row' i else row (i - n))))))
    | _ => False
  | _ => False

/-- An own row, handed to a callee that reads it alone, is as a slice of old for that while. -/
def borrow (s : St) (x : AV) : AV × Bool :=
  match x with
  | .sl id m => match look s.heap id with
    | some (.row _ esz _ f) => (.ro esz m f, true)
    | _ => (x, false)
  | x => (x, false)
def borrowL (s : St) : List AV → List AV × Bool
  | [] => ([], false)
  | x :: r => ((borrow s x).1 :: (borrowL s r).1, (borrow s x).2 || (borrowL s r).2)

mutual
/-- The one value that fits, where there is just one. -/
def AV.exact : AV → Option Value
  | .val v => some v
  | .agg cs => (AV.exactL cs).map fun vs => .agg vs.toArray
  | .tup cs => (AV.exactL cs).map fun vs => .tuple vs.toArray
  | _ => none
def AV.exactL : List AV → Option (List Value)
  | [] => some []
  | x :: r => match AV.exact x, AV.exactL r with
    | some v, some vs => some (v :: vs)
    | _, _ => none
end

/-- One operation in its turn. -/
def aop (B : Tabs) (n : Nat) (s : St) (op : Op) (d : Option Nat) (K : St → Prop) : Prop :=
  match op, d with
  | .call { callee := .value (.func f), args := as, argTypes := _ }, some d => chk (Nat.blt d n) (agets true s as.toList fun ys => chk (AV.pureL (borrowL s ys).1) (CallK B.P true f (borrowL s ys).1 fun y => chk (AV.pureB y && (!(borrowL s ys).2 || (AV.exact y).isSome)) (K (s.put d y))))
  | .alloc t, some d => chk (Nat.blt d n) (chk (look s.heap d).isNone (match look B.Z t with
    | some vs => K (s.new d (.obj d 0) (.cells (vs.map .val)))
    | none => False))
  | .box _ x, some d => chk (Nat.blt d n) (chk (look s.heap d).isNone (aget true s x fun xv => cellsV xv fun cs => K (s.new d (.obj d 0) (.cells cs))))
  | .buildSlice t len parts, some d => chk (Nat.blt d n) (chk (look s.heap d).isNone (match look B.T t with
    | some (.slice e esz _) => (match look B.Z e with
      | some zs => chk (Nat.beq zs.length esz) (chk (Nat.beq parts.toList.length len) (chk (Nat.ble (len * esz) 16777216) (chk (Nat.blt 0 (len * esz)) (partsV s esz 0 parts.toList fun rows => K (s.new d (.sl d len) (.row e esz len fun i => rows.getD i []))))))
      | none => False)
    | _ => False))
  | .makeSlice t l c, some d => chk (Nat.blt d n) (chk (look s.heap d).isNone (match look B.T t with
    | some (.slice e esz by_) => (match look B.Z e with
      | some zs => chk (Nat.beq zs.length esz) (chk (Nat.blt 0 by_) (aget true s l fun lv => aget true s c fun cv => (match lv, cv with
        | .val (.int _ a), .val (.int _ b) => a = b ∧ 0 ≤ a ∧ by_ * a.toNat ≤ 281474976710656 ∧ K (s.new d (.sl d a.toNat) (.row e esz a.toNat fun _ => zs.map .val))
        | _, _ => False)))
      | none => False)
    | _ => False))
  | .call { callee := .builtin .append, args := as, argTypes := ts }, some d => chk (Nat.blt d n) (chk (look s.heap d).isNone (match as.toList, ts.toList with
    | [x, y], [t, t'] => chk (Nat.beq t t') (match look B.T t with
      | some (.slice e esz by_) => (match look B.Z e with
        | some zs => chk (Nat.beq zs.length esz) (chk (Nat.blt 0 by_) (aget true s x fun xv => aget true s y fun yv => srcV s e esz yv fun m row => appV s d e esz by_ xv m row K))
        | none => False)
      | _ => False)
    | _, _ => False))
  | .store t x y, none => aget true s x fun xv => aget true s y fun yv => cellsV yv fun cs => (match xv with
    | .rp id esz i off => (match look s.heap id, look B.T t with
      | some (.row e esz' n' row), some ti => chk (Nat.beq esz esz') (chk (Nat.ble (off + cs.length) esz) (chk (Nat.beq ti.aggSize cs.length) (chk (cs.all AV.oneB) (chk (AV.pureL cs) (i < n' ∧ K { s with heap := setHeap s.heap id (.row e esz' n' fun j => if j = i then (row i).take off ++ cs ++ (row i).drop (off + cs.length) else row j) })))))
      | _, _ => False)
    | .obj id off => (match look s.heap id, look B.T t with
      | some (.cells old), some ti => chk (Nat.ble (off + cs.length) old.length) (chk (Nat.beq ti.aggSize cs.length) (chk (cs.all AV.oneB) (K { s with heap := setHeap s.heap id (.cells (old.take off ++ cs ++ old.drop (off + cs.length))) })))
      | _, _ => False)
    | _ => False)
  | op, some d => chk (Nat.blt d n) (qop B.T true s op fun y => K (s.put d y))
  | _, _ => False

def guardB (ops : List Oper) (s : St) (i : Nat) (b : Bool) (K : Bool → Prop) : Prop :=
  match (ops[i]?).bind (·.dst) with
  | some d => (match look s.env d with
    | some (.val (.bool x)) => K (x == b)
    | some (.cond g (.val (.bool x))) => K (g && (x == b))
    | _ => False)
  | none => False

def aopG (B : Tabs) (n : Nat) (g : Bool) (s : St) (op : Op) (d : Option Nat) (K : St → Prop) : Prop :=
  match op, d with
  | .call { callee := .value (.func f), args := as, argTypes := _ }, some d => chk (Nat.blt d n) (agets g s as.toList fun ys => chk (AV.pureL ys) (CallK B.P g f ys fun y => chk (AV.pureB y) (K (s.put d (.cond g y)))))
  | op, some d => chk (Nat.blt d n) (qop B.T g s op fun y => K (s.put d (.cond g y)))
  | _, none => False

/-- The operations of a region, in their order. -/
def aops (B : Tabs) (n : Nat) (ops : List Oper) : List Oper → St → (St → Prop) → Prop
  | [], s, K => K s
  | o :: r, s, K => match o.guard with
    | none => aop B n s o.op o.dst fun s' => aops B n ops r s' K
    | some (i, b) => guardB ops s i b fun g => aopG B n g s o.op o.dst fun s' => aops B n ops r s' K
end Go.Abs

namespace Go.Abs
open Go Go.RowKit
set_option linter.unusedVariables false

theorem hblk_none_of {F : Nat → Prop} : True := trivial

/-- A new object. -/
theorem RelA.new {cx τ F s a w w'} (h : RelA cx τ F s a w) {d : Nat} (hd : d < cx.n) (hf : look s.heap d = none) {o : HO} {x : AV} {v u : Value} (hb : Below w.heap.size w w')
    (hk : ∀ b, hblk v = some b → w.heap.size ≤ b ∧ b < w'.heap.size)
    (ho : ∀ τ', (∀ id u, τ id = some u → τ' id = some u) → τ' d = some v → HOk F w' τ' o v ∧ Rep F w' τ' x u) : Rel cx (s.new d x o) (a.put (some d) u) w' := by
  have hnone : τ d = none := by
    cases e : τ d with
    | none => rfl
    | some v' => obtain ⟨o', ho'⟩ := h.wr.dom d v' e; rw [hf] at ho'; cases ho'
  let τ' : Nat → Option Value := fun id => if id = d then some v else τ id
  have hτ : ∀ id u, τ id = some u → τ' id = some u := fun id u hu => by
    show (if id = d then some v else τ id) = some u
    rw [if_neg (by rintro rfl; rw [hnone] at hu; cases hu)]; exact hu
  have hτd : τ' d = some v := if_pos rfl
  have hinv : ∀ id u, τ' id = some u → (id = d ∧ u = v) ∨ (id ≠ d ∧ τ id = some u) := fun id u hu => by
    have hu' : (if id = d then some v else τ id) = some u := hu
    split at hu'
    · rename_i e; injection hu' with hu'; exact .inl ⟨e, hu'.symm⟩
    · rename_i e; exact .inr ⟨e, hu'⟩
  obtain ⟨ho1, ho2⟩ := ho τ' hτ hτd
  have h' := h.later hb
  refine ⟨τ', F, ⟨h'.wr.keeps, h'.wr.fz, fun k id u hFk hu => ?_, h'.wr.fsub, h'.wr.fsup, fun id u b hu hbk => ?_, fun id id' u u' b hu hu' hb1 hb2 => ?_, fun id o' hl => ?_, fun id u hu => ?_⟩, by simp [Act.put, h.size], by simp [Act.put, h.defers], fun t y ht => ?_⟩
  · rcases hinv id u hu with ⟨_, rfl⟩ | ⟨_, hu⟩
    · intro e; have := (hk k e).1; have := h.wr.fz k hFk; omega
    · exact h.wr.fne k id u hFk hu
  · rcases hinv id u hu with ⟨_, rfl⟩ | ⟨_, hu2⟩
    · exact ⟨.inl (Nat.le_trans h.wr.keeps.size (hk b hbk).1), (hk b hbk).2⟩
    · exact h'.wr.tlt id u b hu2 hbk
  · rcases hinv id u hu with ⟨e1, e2⟩ | ⟨_, k1⟩ <;> rcases hinv id' u' hu' with ⟨e3, e4⟩ | ⟨_, k2⟩
    · rw [e1, e3]
    · subst e2; have := (hk b hb1).1; have := (h.wr.tlt id' u' b k2 hb2).2; omega
    · subst e4; have := (hk b hb2).1; have := (h.wr.tlt id u b k1 hb1).2; omega
    · exact h.wr.inj id id' u u' b k1 k2 hb1 hb2
  · simp only [St.new] at hl
    rw [look_cons] at hl
    split at hl
    · rename_i e; subst e; injection hl with hl; subst hl; exact ⟨v, hτd, ho1⟩
    · obtain ⟨u, h1, h2⟩ := h'.wr.obj id o' hl
      exact ⟨u, hτ id u h1, h2.mono (fun _ h => h) (fun _ _ => rfl) hτ fun _ _ => rfl⟩
  · simp only [St.new, look_cons]
    rcases hinv id u hu with ⟨rfl, _⟩ | ⟨hne, hu⟩
    · exact ⟨o, if_pos rfl⟩
    · obtain ⟨o', ho'⟩ := h.wr.dom id u hu; exact ⟨o', by rw [if_neg hne]; exact ho'⟩
  · simp only [St.new] at ht
    rw [look_cons] at ht
    split at ht
    · rename_i e; subst e; injection ht with ht; subst ht
      refine ⟨hd, ?_⟩
      have : (a.tmps.setIfInBounds t u).getD t undef = u := by
        have ht : t < a.tmps.size := by rw [h.size]; exact hd
        simp [ht]
      simp only [Act.put]; rw [this]; exact ho2
    · obtain ⟨h1, h2⟩ := h'.env t y ht
      refine ⟨h1, ?_⟩
      have : (a.tmps.setIfInBounds d u).getD t undef = a.tmps.getD t undef := by
        simp only [Array.getD_eq_getD_getElem?]
        rw [Array.getElem?_setIfInBounds_ne (by omega)]
      simp only [Act.put]; rw [this]; exact h2.mono (fun _ h => h) (fun _ _ => rfl) hτ

theorem cellsV_sound {x : AV} {K : List AV → Prop} (h : cellsV x K) : ∃ cs, K cs ∧ ∀ F w τ v, Rep F w τ x v → v.cells.size = cs.length ∧ ∀ (j : Nat) (c : AV), cs[j]? = some c → Rep F w τ c (v.cells.getD j undef) := by
  have one : ∀ (x : AV) F w τ v, v.oneCell' = true → Rep F w τ x v → v.cells.size = [x].length ∧ ∀ (j : Nat) (c : AV), [x][j]? = some c → Rep F w τ c (v.cells.getD j undef) := by
    intro x F w τ v ho hr
    have hc : v.cells = #[v] := by cases v <;> first | rfl | simp [Value.oneCell'] at ho
    rw [hc]
    refine ⟨rfl, fun j c hj => ?_⟩
    cases j with
    | zero => simp at hj; subst hj; exact hr
    | succ j => simp at hj
  unfold cellsV at h
  split at h
  · refine ⟨_, h, fun F w τ v hr => ?_⟩
    cases hr with
    | agg _ _ vs hl hv => exact ⟨hl.symm, hv⟩
  · obtain ⟨h1, h2⟩ := chk_spec h
    refine ⟨_, h2, fun F w τ v hr => ?_⟩
    cases hr; exact one _ F w τ _ h1 (.val _ _)
  · refine ⟨_, h, fun F w τ v hr => one _ F w τ v (by cases hr; rfl) hr⟩
  · refine ⟨_, h, fun F w τ v hr => one _ F w τ v (by cases hr; rfl) hr⟩
  · refine ⟨_, h, fun F w τ v hr => one _ F w τ v (by cases hr; rfl) hr⟩
  · refine ⟨_, h, fun F w τ v hr => one _ F w τ v (by cases hr; rfl) hr⟩
  · refine ⟨_, h, fun F w τ v hr => one _ F w τ v (by cases hr; rfl) hr⟩
  · exact h.elim

theorem oneB_sound {F w τ x v} (h : Rep F w τ x v) (ho : x.oneB = true) : v.oneCell' = true := by
  cases h <;> first | rfl | exact ho | simp [AV.oneB] at ho

theorem below_alloc (w : World) (o : Obj) : Below w.heap.size w (w.alloc o) := (Below.refl _ _).alloc (Nat.le_refl _) _

theorem look_setHeap {α : Type} (h : List (Nat × α)) (id : Nat) (o : α) (id' : Nat) : look (setHeap h id o) id' = if id' = id then (look h id).map fun _ => o else look h id' := by
  induction h with
  | nil => simp [setHeap, look]
  | cons x r ih =>
    obtain ⟨k, v⟩ := x
    simp only [setHeap]
    by_cases e : id = k
    · subst e
      by_cases e' : id' = id
      · simp [e', look_cons]
      · simp [e', look_cons]
    · rw [if_neg e]
      simp only [look_cons, ih]
      by_cases e' : id' = k
      · subst e'
        rw [if_pos rfl, if_neg (fun h => e h.symm)]; simp
      · rw [if_neg e']
        by_cases e2 : id' = id
        · subst e2; simp [e]
        · simp [e2, e']

/-- A store into an object of the frame's own. -/
theorem RelA.write {cx τ F s a w} (h : RelA cx τ F s a w) {id : Nat} {old : List AV} (hl : look s.heap id = some (.cells old)) {b : Nat} (hτ : τ id = some (.pointer (some ⟨b, 0, none⟩))) {off : Nat} {cs : List AV}
    (hoff : off + cs.length ≤ old.length) {v : Value} (hsz : v.cells.size = cs.length) (hrep : ∀ (j : Nat) (c : AV), cs[j]? = some c → Rep F w τ c (v.cells.getD j undef)) (hone : cs.all AV.oneB = true) :
    ∃ w', (storeCells ⟨b, off, none⟩ v.cells.toList 0).run cx.P w = .ok () w' ∧ RelA cx τ F { s with heap := setHeap s.heap id (.cells (old.take off ++ cs ++ old.drop (off + cs.length))) } a w' := by
  obtain ⟨u, h1, b', c, ty, rfl, h3, h4, h5⟩ := h.wr.obj id _ hl
  rw [hτ] at h1; injection h1 with h1; injection h1 with h1; injection h1 with h1; injection h1 with h1; subst h1
  have hall : ∀ x ∈ v.cells.toList, x.oneCell' = true := by
    intro x hx
    obtain ⟨j, hj, rfl⟩ := List.getElem_of_mem hx
    have hj' : j < cs.length := by simpa [hsz] using hj
    have e := hrep j _ (List.getElem?_eq_getElem hj')
    have e2 : v.cells.getD j undef = v.cells.toList[j] := by
      have : j < v.cells.size := by omega
      simp [this]
    rw [e2] at e
    exact oneB_sound e (List.all_eq_true.1 hone _ (List.getElem_mem hj'))
  have hrun := run_storeCells_at cx.P b off ty v.cells.toList 0 c w h3 (by simp [hsz]; omega) hall
  refine ⟨_, hrun, ?_⟩
  simp only [Nat.add_zero, Array.length_toList] at hrun ⊢
  generalize hnew : (c.toList.take off ++ v.cells.toList ++ c.toList.drop (off + v.cells.size)).toArray = c' at hrun ⊢
  have hw' : (w.setRow b c').heap[b]? = some (.cells c' ty (0, 0)) := setRow_heap w b c c' ty _ h3
  have hother : ∀ k, k ≠ b → (w.setRow b c').heap[k]? = w.heap[k]? := fun k hk => by
    simp only [World.setRow, Array.getElem?_modify]; rw [if_neg (fun e => hk e.symm)]
  have hsize : (w.setRow b c').heap.size = w.heap.size := by simp [World.setRow]
  have htl := h.wr.tlt id _ b hτ rfl
  have hFb : ∀ k, F k → k ≠ b := fun k hk e => h.wr.fne k id _ hk hτ (by subst e; rfl)
  have hF : ∀ k, F k → (w.setRow b c').heap[k]? = w.heap[k]? := fun k hk => hother k (hFb k hk)
  have hmono : ∀ x u, Rep F w τ x u → Rep F (w.setRow b c') τ x u := fun x u hr => hr.mono (fun _ h => h) hF (fun _ _ h => h)
  refine ⟨⟨⟨h.wr.keeps.os, h.wr.keeps.tape, h.wr.keeps.output, by rw [hsize]; exact h.wr.keeps.size, fun k hk hx => ?_⟩, fun k hk => by rw [hsize]; exact h.wr.fz k hk, h.wr.fne, h.wr.fsub, h.wr.fsup, fun id v b hv hk => by rw [hsize]; exact h.wr.tlt id v b hv hk, h.wr.inj, fun id' o hl' => ?_, fun id' u hu => ?_⟩, h.size, h.defers, fun t x ht => ⟨(h.env t x ht).1, hmono _ _ (h.env t x ht).2⟩⟩
  · rw [hother k (by rintro rfl; rcases htl.1 with h | h; omega; exact hx h)]; exact h.wr.keeps.block k hk hx
  · rw [look_setHeap] at hl'
    split at hl'
    · rename_i e; subst e
      rw [hl] at hl'; simp only [Option.map_some, Option.some.injEq] at hl'; subst hl'
      have hc' : c'.size = old.length := by
        subst hnew
        simp [hsz, h4]; omega
      refine ⟨_, hτ, b, c', ty, rfl, hw', by rw [hc']; simp; omega, fun j x hx => hmono _ _ ?_⟩
      subst hnew
      by_cases j1 : j < off
      · have e1 : (old.take off ++ cs ++ old.drop (off + cs.length))[j]? = old[j]? := by
          rw [List.append_assoc, List.getElem?_append_left (by simp; omega), List.getElem?_take, if_pos j1]
        rw [e1] at hx
        have := h5 j x hx
        have hjc : j < c.size := by have := (List.getElem?_eq_some_iff.1 hx).1; omega
        have e2 : (c.toList.take off ++ v.cells.toList ++ c.toList.drop (off + v.cells.size)).toArray.getD j undef = c.getD j undef := by
          simp only [Array.getD_eq_getD_getElem?, List.getElem?_toArray]
          rw [List.append_assoc, List.getElem?_append_left (by simp; omega), List.getElem?_take, if_pos j1]
          simp
        rw [e2]; exact this
      · by_cases j2 : j < off + cs.length
        · have e1 : (old.take off ++ cs ++ old.drop (off + cs.length))[j]? = cs[j - off]? := by
            have hlen : (old.take off).length = off := by simp; omega
            rw [List.append_assoc, List.getElem?_append_right (by omega), List.getElem?_append_left (by omega), hlen]
          rw [e1] at hx
          have := hrep (j - off) x hx
          have e2 : (c.toList.take off ++ v.cells.toList ++ c.toList.drop (off + v.cells.size)).toArray.getD j undef = v.cells.getD (j - off) undef := by
            have hlen : (c.toList.take off).length = off := by simp; omega
            simp only [Array.getD_eq_getD_getElem?, List.getElem?_toArray]
            rw [List.append_assoc, List.getElem?_append_right (by omega), List.getElem?_append_left (by simp [hlen, hsz]; omega), hlen]
            simp
          rw [e2]; exact this
        · have e1 : (old.take off ++ cs ++ old.drop (off + cs.length))[j]? = old[j]? := by
            have hlen : (old.take off ++ cs).length = off + cs.length := by simp; omega
            rw [List.getElem?_append_right (by omega), hlen, List.getElem?_drop]
            congr 1; omega
          rw [e1] at hx
          have := h5 j x hx
          have e2 : (c.toList.take off ++ v.cells.toList ++ c.toList.drop (off + v.cells.size)).toArray.getD j undef = c.getD j undef := by
            have hlen : (c.toList.take off ++ v.cells.toList).length = off + cs.length := by simp [hsz]; omega
            simp only [Array.getD_eq_getD_getElem?, List.getElem?_toArray]
            rw [List.getElem?_append_right (by omega), hlen, List.getElem?_drop, hsz]
            rw [show off + cs.length + (j - (off + cs.length)) = j by omega]
            simp
          rw [e2]; exact this
    · rename_i hne
      obtain ⟨u, q1, q2⟩ := h.wr.obj id' o hl'
      refine ⟨u, q1, q2.mono (fun _ h => h) hF (fun _ _ h => h) fun b' hb' => hother b' ?_⟩
      rintro rfl
      exact hne (h.wr.inj id' id u _ b' q1 hτ hb' rfl)
  · rw [look_setHeap]
    obtain ⟨o, ho⟩ := h.wr.dom id' u hu
    by_cases e : id' = id
    · subst e; rw [if_pos rfl, hl]; exact ⟨_, rfl⟩
    · rw [if_neg e]; exact ⟨o, ho⟩
end Go.Abs

namespace Go.Abs
open Go Go.RowKit
set_option linter.unusedVariables false

theorem look_map {α β : Type} (f : α → β) : ∀ (l : List (Nat × α)) (t : Nat), look (l.map fun x => (x.1, f x.2)) t = (look l t).map f
  | [], t => rfl
  | (k, v) :: r, t => by
    simp only [List.map_cons, look_cons, look_map f r t]
    split <;> rfl
theorem look_filter {α : Type} (id : Nat) : ∀ (l : List (Nat × α)) (t : Nat), look (l.filter fun x => !Nat.beq x.1 id) t = if t = id then none else look l t
  | [], t => by simp [look]
  | (k, v) :: r, t => by
    by_cases hk : k = id
    · subst hk
      have : (!Nat.beq k k) = false := by simp
      rw [List.filter_cons]
      simp only [this, Bool.false_eq_true, if_false, look_filter k r t, look_cons]
      split
      · rfl
      · rfl
    · have : (!Nat.beq k id) = true := by
        cases e : Nat.beq k id with
        | false => rfl
        | true => exact absurd (Nat.eq_of_beq_eq_true e) hk
      rw [List.filter_cons]
      simp only [this, if_true, look_cons, look_filter id r t]
      by_cases ht : t = k
      · subst ht; simp [hk]
      · simp [ht]

theorem keep_rep {F : Nat → Prop} {w : World} {τ τ' : Nat → Option Value} {p : Nat → Bool} (hτ : ∀ id, p id = true → τ' id = τ id) {x : AV} {v : Value} (h : Rep F w τ x v) : Rep F w τ' (x.keep p) v := by
  unfold AV.keep
  cases e : AV.refsB p x with
  | true => exact h.refs hτ e
  | false => exact .any _ _

def without (τ : Nat → Option Value) (id : Nat) : Nat → Option Value := fun k => if k = id then none else τ k

theorem RelA.drop {cx τ F s a w} (h : RelA cx τ F s a w) (id : Nat) : RelA cx (without τ id) F (s.drop id) a w := by
  have h1 : ∀ k, (!Nat.beq k id) = true → without τ id k = τ k := fun k hk => by
    unfold without
    rw [if_neg (by rintro rfl; simp at hk)]
  have h2 : ∀ k v, without τ id k = some v → k ≠ id ∧ τ k = some v := fun k v hv => by
    unfold without at hv
    split at hv
    · cases hv
    · rename_i e; exact ⟨e, hv⟩
  refine ⟨⟨h.wr.keeps, h.wr.fz, fun k i v hk hv => h.wr.fne k i v hk (h2 i v hv).2, h.wr.fsub, h.wr.fsup, fun i v b hv => h.wr.tlt i v b (h2 i v hv).2, fun i i' v v' b hv hv' => h.wr.inj i i' v v' b (h2 i v hv).2 (h2 i' v' hv').2, fun i o hl => ?_, fun i v hv => ?_⟩, h.size, h.defers, fun t x ht => ?_⟩
  · simp only [St.drop] at hl
    rw [look_map (fun o : HO => o.keep fun k => !Nat.beq k id), look_filter] at hl
    split at hl
    · cases hl
    · rename_i hne
      cases ho : look s.heap i with
      | none => rw [ho] at hl; cases hl
      | some o' =>
        rw [ho] at hl
        simp only [Option.map_some, Option.some.injEq] at hl
        obtain ⟨v, q1, q2⟩ := h.wr.obj i o' ho
        refine ⟨v, by unfold without; rw [if_neg hne]; exact q1, ?_⟩
        subst hl
        cases o' with
        | cells cs =>
          obtain ⟨b, c, ty, rfl, r1, r2, r3⟩ := q2
          refine ⟨b, c, ty, rfl, r1, by simpa using r2, fun j x hx => ?_⟩
          rw [List.getElem?_map] at hx
          cases hc : cs[j]? with
          | none => rw [hc] at hx; cases hx
          | some y =>
            rw [hc] at hx; injection hx with hx; subst hx
            exact keep_rep h1 (r3 j y hc)
        | row e esz n row => exact q2
  · obtain ⟨hne, hv⟩ := h2 i v hv
    obtain ⟨o, ho⟩ := h.wr.dom i v hv
    simp only [St.drop]
    rw [look_map (fun o : HO => o.keep fun k => !Nat.beq k id), look_filter, if_neg hne, ho]
    exact ⟨_, rfl⟩
  · simp only [St.drop] at ht
    rw [look_map (fun x : AV => x.keep fun k => !Nat.beq k id)] at ht
    cases hx : look s.env t with
    | none => rw [hx] at ht; cases ht
    | some y =>
      rw [hx] at ht; injection ht with ht; subst ht
      exact ⟨(h.env t y hx).1, keep_rep h1 (h.env t y hx).2⟩

/-- One block that nothing known lies in has turned, and there may be new ones. -/
theorem RelA.change {cx τ F s a w w'} (h : RelA cx τ F s a w) {row : Option Nat} (hg : w.grownBy w' row) (hr : ∀ k, row = some k → (cx.w.heap.size ≤ k ∨ cx.X k) ∧ (¬ F k) ∧ ∀ id v, τ id = some v → hblk v ≠ some k) : RelA cx τ F s a w' := by
  have hw : ∀ k, F k → w'.heap[k]? = w.heap[k]? := fun k hk => hg.block k (h.wr.fz k hk) (fun e => (hr k e.symm).2.1 hk)
  refine ⟨⟨⟨hg.os.trans h.wr.keeps.os, hg.tape.trans h.wr.keeps.tape, hg.output.trans h.wr.keeps.output, Nat.le_trans h.wr.keeps.size hg.size, fun k hk hx => ?_⟩, fun k hk => Nat.lt_of_lt_of_le (h.wr.fz k hk) hg.size, h.wr.fne, h.wr.fsub, h.wr.fsup, fun id v b hv hk => ⟨(h.wr.tlt id v b hv hk).1, Nat.lt_of_lt_of_le (h.wr.tlt id v b hv hk).2 hg.size⟩, h.wr.inj, fun id o hl => ?_, h.wr.dom⟩, h.size, h.defers, fun t x ht => ⟨(h.env t x ht).1, (h.env t x ht).2.mono (fun _ h => h) hw (fun _ _ h => h)⟩⟩
  · rw [hg.block k (Nat.lt_of_lt_of_le hk h.wr.keeps.size) (fun e => by
      rcases (hr k e.symm).1 with h' | h'
      · omega
      · exact hx h')]
    exact h.wr.keeps.block k hk hx
  · obtain ⟨v, h1, h2⟩ := h.wr.obj id o hl
    exact ⟨v, h1, h2.mono (fun _ h => h) hw (fun _ _ h => h) fun b hv => hg.block b (h.wr.tlt id v b h1 hv).2 (fun e => (hr b e.symm).2.2 id v h1 hv)⟩

/-- An object that is there already, and that nothing known lies in, comes under a name. -/
theorem RelA.add {cx τ F s a w} (h : RelA cx τ F s a w) {d : Nat} (hd : d < cx.n) (hf : look s.heap d = none) {o : HO} {x : AV} {v u : Value}
    (hk : ∀ b, hblk v = some b → ((cx.w.heap.size ≤ b ∨ cx.X b) ∧ b < w.heap.size) ∧ (¬ F b) ∧ ∀ id u, τ id = some u → hblk u ≠ some b)
    (ho : ∀ τ', (∀ id u, τ id = some u → τ' id = some u) → τ' d = some v → HOk F w τ' o v ∧ Rep F w τ' x u) : Rel cx (s.new d x o) (a.put (some d) u) w := by
  have hnone : τ d = none := by
    cases e : τ d with
    | none => rfl
    | some v' => obtain ⟨o', ho'⟩ := h.wr.dom d v' e; rw [hf] at ho'; cases ho'
  let τ' : Nat → Option Value := fun id => if id = d then some v else τ id
  have hτ : ∀ id u, τ id = some u → τ' id = some u := fun id u hu => by
    show (if id = d then some v else τ id) = some u
    rw [if_neg (by rintro rfl; rw [hnone] at hu; cases hu)]; exact hu
  have hτd : τ' d = some v := if_pos rfl
  have hinv : ∀ id u, τ' id = some u → (id = d ∧ u = v) ∨ (id ≠ d ∧ τ id = some u) := fun id u hu => by
    have hu' : (if id = d then some v else τ id) = some u := hu
    split at hu'
    · rename_i e; injection hu' with hu'; exact .inl ⟨e, hu'.symm⟩
    · rename_i e; exact .inr ⟨e, hu'⟩
  obtain ⟨ho1, ho2⟩ := ho τ' hτ hτd
  refine ⟨τ', F, ⟨h.wr.keeps, h.wr.fz, fun k id u hFk hu => ?_, h.wr.fsub, h.wr.fsup, fun id u b hu hbk => ?_, fun id id' u u' b hu hu' hb1 hb2 => ?_, fun id o' hl => ?_, fun id u hu => ?_⟩, by simp [Act.put, h.size], by simp [Act.put, h.defers], fun t y ht => ?_⟩
  · rcases hinv id u hu with ⟨_, rfl⟩ | ⟨_, hu⟩
    · intro e; exact (hk k e).2.1 hFk
    · exact h.wr.fne k id u hFk hu
  · rcases hinv id u hu with ⟨_, rfl⟩ | ⟨_, hu2⟩
    · exact (hk b hbk).1
    · exact h.wr.tlt id u b hu2 hbk
  · rcases hinv id u hu with ⟨e1, e2⟩ | ⟨_, k1⟩ <;> rcases hinv id' u' hu' with ⟨e3, e4⟩ | ⟨_, k2⟩
    · rw [e1, e3]
    · subst e2; exact absurd hb2 ((hk b hb1).2.2 id' u' k2)
    · subst e4; exact absurd hb1 ((hk b hb2).2.2 id u k1)
    · exact h.wr.inj id id' u u' b k1 k2 hb1 hb2
  · simp only [St.new] at hl
    rw [look_cons] at hl
    split at hl
    · rename_i e; subst e; injection hl with hl; subst hl; exact ⟨v, hτd, ho1⟩
    · obtain ⟨u, h1, h2⟩ := h.wr.obj id o' hl
      exact ⟨u, hτ id u h1, h2.mono (fun _ h => h) (fun _ _ => rfl) hτ fun _ _ => rfl⟩
  · simp only [St.new, look_cons]
    rcases hinv id u hu with ⟨rfl, _⟩ | ⟨hne, hu⟩
    · exact ⟨o, if_pos rfl⟩
    · obtain ⟨o', ho'⟩ := h.wr.dom id u hu; exact ⟨o', by rw [if_neg hne]; exact ho'⟩
  · simp only [St.new] at ht
    rw [look_cons] at ht
    split at ht
    · rename_i e; subst e; injection ht with ht; subst ht
      refine ⟨hd, ?_⟩
      have : (a.tmps.setIfInBounds t u).getD t undef = u := by
        have ht : t < a.tmps.size := by rw [h.size]; exact hd
        simp [ht]
      simp only [Act.put]; rw [this]; exact ho2
    · obtain ⟨h1, h2⟩ := h.env t y ht
      refine ⟨h1, ?_⟩
      have : (a.tmps.setIfInBounds d u).getD t undef = a.tmps.getD t undef := by
        simp only [Array.getD_eq_getD_getElem?]
        rw [Array.getElem?_setIfInBounds_ne (by omega)]
      simp only [Act.put]; rw [this]; exact h2.mono (fun _ h => h) (fun _ _ => rfl) hτ

/-- The slice that stands for an owned row. -/
theorem own_sl {F : Nat → Prop} {w : World} {τ : Nat → Option Value} {e esz n d : Nat} {v : Value} {xs : List Value} (h : w.ownsRow 0 e esz v n xs) (hτ : τ d = some v) : Rep F w τ (.sl d n) v := by
  rcases h.2 with ⟨rfl, rfl⟩ | ⟨g, cap, cur, rfl, _, hg, hnc, hcm, hcs, htk⟩
  · exact .sl _ d 0 none 0 0 hτ (Nat.le_refl _) (Nat.le_refl _) (fun h => absurd h (by simp))
  · exact .sl _ d n _ n cap hτ (Nat.le_refl _) hnc (fun _ => ⟨g, rfl⟩)

theorem own_hblk {w : World} {e esz n : Nat} {v : Value} {xs : List Value} (h : w.ownsRow 0 e esz v n xs) : hblk v = v.ownBlock := by
  rcases h.2 with ⟨rfl, rfl⟩ | ⟨g, cap, cur, rfl, _⟩ <;> rfl

theorem own_lt {w : World} {e esz n b : Nat} {v : Value} {xs : List Value} (h : w.ownsRow 0 e esz v n xs) (hb : hblk v = some b) : b < w.heap.size := by
  rcases h.2 with ⟨rfl, rfl⟩ | ⟨g, cap, cur, rfl, _, hg, _⟩
  · cases hb
  · simp only [hblk, Option.some.injEq] at hb
    subst hb
    rcases Nat.lt_or_ge g w.heap.size with h | h
    · exact h
    · rw [Array.getElem?_eq_none h] at hg; cases hg
end Go.Abs

namespace Go.Abs
open Go Go.RowKit
set_option linter.unusedVariables false

theorem zero_info {P : Program} {t : Nat} {zs : List Value} (h : zeroCells P t = some zs) : ∃ i z, P.info? t = some i ∧ i.zero = some z ∧ z.cells.toList = zs := by
  unfold zeroCells at h
  cases hi : P.info? t with
  | none => rw [hi] at h; cases h
  | some i =>
    cases hz : i.zero with
    | none => rw [hi] at h; simp [hz] at h
    | some z => rw [hi] at h; simp [hz] at h; exact ⟨i, z, rfl, hz, h⟩

theorem partsV_sound {s : St} {esz : Nat} : ∀ {ps : List (Nat × Operand)} {k : Nat} {K : List (List AV) → Prop}, partsV s esz k ps K →
    ∃ rows, K rows ∧ rows.length = ps.length ∧ ∀ F τ w n (a : Act), EnvR F τ w n s.env a.tmps → ∃ vs : List Value, vs.length = ps.length ∧ (ps.map fun x => (x.1, a.eval x.2)) = (vs.zipIdx k).map (fun x => (x.2, x.1)) ∧
      (∀ v ∈ vs, v.cells.size = esz) ∧ ∀ (i : Nat) (v : Value), vs[i]? = some v → (rows.getD i []).length = esz ∧ ∀ (j : Nat) (x : AV), (rows.getD i [])[j]? = some x → Rep F w (fun _ => none) x (v.cells.getD j undef)
  | [], k, K, h => ⟨[], h, rfl, fun F τ w n a he => ⟨[], rfl, rfl, by simp, fun i v hv => by simp at hv⟩⟩
  | (i, x) :: r, k, K, h => by
    obtain ⟨hk, h⟩ := chk_spec h
    have hk := Nat.eq_of_beq_eq_true hk
    subst hk
    obtain ⟨xv, h, hx⟩ := aget_sound h
    obtain ⟨cs, h, hc⟩ := cellsV_sound h
    obtain ⟨hl, h⟩ := chk_spec h
    have hl := Nat.eq_of_beq_eq_true hl
    obtain ⟨hp, h⟩ := chk_spec h
    obtain ⟨rows, hK, hrl, hr⟩ := partsV_sound h
    refine ⟨cs :: rows, hK, by simp [hrl], fun F τ w n a he => ?_⟩
    obtain ⟨vs, h1, h2, h3, h4⟩ := hr F τ w n a he
    obtain ⟨q1, q2⟩ := hc F w τ _ (hx F τ w n a rfl he)
    refine ⟨a.eval x :: vs, by simp [h1], ?_, fun v hv => ?_, fun j v hv => ?_⟩
    · rw [List.map_cons, h2]; rfl
    · rcases List.mem_cons.1 hv with rfl | hv
      · rw [q1, hl]
      · exact h3 v hv
    · cases j with
      | zero =>
        simp at hv; subst hv
        exact ⟨by simpa using hl, fun j x hx => (q2 j x (by simpa using hx)).pure (pureL_at hp j x (by simpa using hx))⟩
      | succ j => simpa using h4 j v (by simpa using hv)

theorem build_new {cx τ F s a w} (h : RelA cx τ F s a w) {d : Nat} (hd : d < cx.n) (hf : look s.heap d = none) {e esz n by_ t : Nat} (hok : (TI.slice e esz by_).okB cx.P t = true) {zs : List Value} (hz : zeroCells cx.P e = some zs) {parts : Array (Nat × Operand)}
    (hn : parts.toList.length = n) (hsm : n * esz ≤ 16777216) (hpos : 0 < n * esz) {rows : List (List AV)} {vs : List Value} (hvl : vs.length = parts.toList.length) (hps : (parts.toList.map fun x => (x.1, a.eval x.2)) = (vs.zipIdx 0).map (fun x => (x.2, x.1)))
    (hsz : ∀ v ∈ vs, v.cells.size = esz) (hrep : ∀ (i : Nat) (v : Value), vs[i]? = some v → (rows.getD i []).length = esz ∧ ∀ (j : Nat) (x : AV), (rows.getD i [])[j]? = some x → Rep F w (fun _ => none) x (v.cells.getD j undef)) :
    ∃ v w', (Instr.buildSlice t n (parts.map fun (i, x) => (i, a.eval x))).run cx.P w = .ok v w' ∧ Rel cx (s.new d (.sl d n) (.row e esz n fun i => rows.getD i [])) (a.put (some d) v) w' := by
  obtain ⟨fi, hu, hi, hsz', hpos', hby⟩ := ok_slice hok
  obtain ⟨i', z, hi', hzz, _⟩ := zero_info hz
  rw [hi] at hi'; injection hi' with hi'; subst hi'
  have hesz : 0 < esz := hpos'
  have hvn : vs.length = n := by omega
  have hfill : Instr.fill (fun i => some (i * fi.size, fi.size)) ((Array.range (n * fi.size)).map (z.cells[· % z.cells.size]!)) (parts.map fun (i, x) => (i, a.eval x)).toList = some (vs.flatMap fun v => v.cells.toList).toArray := by
    rw [Array.toList_map, hps, hsz']
    exact Great.fill_whole hesz vs _ hsz (by simp [hvn])
  have hrun := run_buildSlice (P := cx.P) w t e n _ _ fi z hu hi hzz (by rw [hsz']; omega) (by rw [hsz']; omega) hfill
  refine ⟨_, _, hrun, ?_⟩
  have hcs : ((vs.flatMap fun v => v.cells.toList).toArray).size = n * esz := by
    have : ∀ vs : List Value, (∀ v ∈ vs, v.cells.size = esz) → (vs.flatMap fun v => v.cells.toList).length = vs.length * esz := by
      intro vs
      induction vs with
      | nil => intro _; simp
      | cons v r ih => intro h; rw [List.flatMap_cons, List.length_append, ih (fun x hx => h x (List.mem_cons_of_mem _ hx))]; simp [h v (List.mem_cons_self ..), Nat.add_mul]; omega
    simp [this vs hsz, hvn]
  have hown : (w.alloc (.cells (vs.flatMap fun v => v.cells.toList).toArray e)).ownsRow 0 e esz (.slice (some ⟨w.heap.size, 0, none⟩) n n) n (vs.flatMap fun v => v.cells.toList) := by
    have hnm : n ≤ maxLen := by
      have : n ≤ n * esz := Nat.le_mul_of_pos_right _ hesz
      unfold maxLen; omega
    have := World.ownsRow_lit (base := 0) (e := e) (size := esz) w (vs.flatMap fun v => v.cells.toList).toArray n (Nat.zero_le _) hnm hcs
    simpa using this
  have hb := below_alloc w (.cells (vs.flatMap fun v => v.cells.toList).toArray e)
  refine h.new hd hf (v := .slice (some ⟨w.heap.size, 0, none⟩) n n) hb (fun b hb => ?_) (fun τ' hτ hτd => ⟨⟨_, hown, fun i hi => ?_, fun i j x hi hx => ?_⟩, own_sl hown hτd⟩)
  · simp only [hblk, Option.some.injEq] at hb; subst hb; simp
  · exact (hrep i _ (List.getElem?_eq_getElem (by omega))).1
  · obtain ⟨r1, r2⟩ := hrep i _ (List.getElem?_eq_getElem (show i < vs.length by omega))
    have hj0 : j < (rows.getD i []).length := (List.getElem?_eq_some_iff.1 hx).1
    have hj : j < esz := by omega
    have hg := Great.flat_get hesz vs hsz (i * esz + j)
    have e1 : (i * esz + j) / esz = i := by
      rw [Nat.mul_comm, Nat.mul_add_div hesz, Nat.div_eq_of_lt hj]; simp
    have e2 : (i * esz + j) % esz = j := by
      rw [Nat.mul_comm, Nat.mul_add_mod, Nat.mod_eq_of_lt hj]
    rw [e1, e2, List.getElem?_eq_getElem (show i < vs.length by omega), Option.bind_some] at hg
    have e3 : (vs.flatMap fun v => v.cells.toList).getD (i * esz + j) undef = (vs[i]'(by omega)).cells.getD j undef := by
      rw [List.getD_eq_getElem?_getD, hg, Array.getD_eq_getD_getElem?]
    rw [e3]
    exact (r2 j x hx).mono (fun _ h => h) (fun k hk => hb.block k (h.wr.fz k hk)) (fun _ _ h => by cases h)

theorem make_new {cx τ F s a w} (h : RelA cx τ F s a w) {d : Nat} (hd : d < cx.n) (hf : look s.heap d = none) {e esz by_ t : Nat} (hok : (TI.slice e esz by_).okB cx.P t = true) {zs : List Value} (hz : zeroCells cx.P e = some zs) (hzl : zs.length = esz) (hby0 : 0 < by_)
    {kl kc : IntKind} {n : Nat} (hn : by_ * n ≤ 281474976710656) :
    ∃ v w', (Instr.makeSlice t (.int kl (n : Int)) (.int kc (n : Int))).run cx.P w = .ok v w' ∧ Rel cx (s.new d (.sl d n) (.row e esz n fun _ => zs.map .val)) (a.put (some d) v) w' := by
  obtain ⟨fi, hu, hi, hsz', hpos', hby⟩ := ok_slice hok
  obtain ⟨i', z, hi', hzz, hzc⟩ := zero_info hz
  rw [hi] at hi'; injection hi' with hi'; subst hi'
  have hnm : n ≤ maxLen := by
    have : n ≤ by_ * n := Nat.le_mul_of_pos_left _ hby0
    unfold maxLen; omega
  obtain ⟨w', hrun, hown, hg⟩ := run_make_full (P := cx.P) w 0 t e fi z esz hu hi hzz hsz' kl kc n (by rw [hby]; exact hn) hnm (Nat.zero_le _)
  refine ⟨_, _, hrun, ?_⟩
  have hb : Below w.heap.size w w' := ⟨hg.os, hg.tape, hg.output, hg.size, fun k hk => hg.block k hk (by simp)⟩
  refine h.new hd hf (v := .slice (some ⟨w.heap.size, 0, none⟩) n n) hb (fun b hbk => ?_) (fun τ' hτ hτd => ⟨⟨_, hown, fun i hi => by simpa using hzl, fun i j x hi hx => ?_⟩, own_sl hown hτd⟩)
  · have := own_lt hown hbk
    simp only [hblk, Option.some.injEq] at hbk; subst hbk; exact ⟨Nat.le_refl _, this⟩
  · rw [List.getElem?_map] at hx
    cases hv : zs[j]? with
    | none => rw [hv] at hx; cases hx
    | some v =>
      rw [hv] at hx; injection hx with hx; subst hx
      have hj : j < esz := by have := (List.getElem?_eq_some_iff.1 hv).1; omega
      have hzs : z.cells.size = esz := by rw [← hzl, ← hzc]; simp
      have hlt : i * esz + j < n * esz := by
        have : (i + 1) * esz ≤ n * esz := Nat.mul_le_mul_right _ hi
        rw [Nat.add_mul, Nat.one_mul] at this; omega
      have e2 : (i * esz + j) % esz = j := by
        rw [Nat.mul_comm, Nat.mul_add_mod, Nat.mod_eq_of_lt hj]
      have e3 : (madeCells z.cells (n * esz)).toList.getD (i * esz + j) undef = v := by
        have hv' : z.cells[j]? = some v := by rw [← hv, ← hzc]; simp
        have hjz : j < z.cells.size := by omega
        simp only [madeCells, hzs]
        rw [List.getD_eq_getElem?_getD, Array.getElem?_toList, Array.getElem?_map, Array.getElem?_range]
        simp only [hlt, if_true, Option.map_some, Option.getD_some, e2]
        rw [getElem!_pos z.cells j hjz]
        have := Array.getElem?_eq_getElem hjz
        rw [this] at hv'; injection hv'
      rw [e3]; exact .val _ _

/-- What a source of an append holds: its cells, where they lie. -/
def SrcAt (F : Nat → Prop) (w : World) (esz m : Nat) (row : Nat → List AV) (v : Value) : Prop :=
  ∃ A c, v = .slice A m c ∧ (∀ i, i < m → (row i).length = esz) ∧ ∃ f : Nat → Nat → Value, (0 < m → ∃ b o, A = some ⟨b, o, none⟩ ∧ ∀ i j, i < m → j < esz → w.cell? ⟨b, o + i * esz + j, none⟩ = some (f i j)) ∧
    ∀ i j x, i < m → (row i)[j]? = some x → Rep F w (fun _ => none) x (f i j)

theorem srcV_sound {s : St} {e esz : Nat} {y : AV} {K : Nat → (Nat → List AV) → Prop} (h : srcV s e esz y K) :
    ∃ m row, K m row ∧ (∀ i, i < m → (row i).all AV.oneB = true) ∧ ∀ cx τ F w v, RelW cx τ F s w → Rep F w τ y v → SrcAt F w esz m row v := by
  unfold srcV at h
  split at h
  · refine ⟨_, _, h, fun i hi => absurd hi (by omega), fun cx τ F w v hw hr => ?_⟩
    cases hr
    exact ⟨none, 0, rfl, fun i hi => absurd hi (by omega), fun _ _ => undef, fun h => absurd h (by omega), fun i j x hi => absurd hi (by omega)⟩
  · rename_i sz m row
    obtain ⟨hz, h1, h2⟩ := chk_spec h
    have hz := Nat.eq_of_beq_eq_true hz
    subst hz
    refine ⟨m, row, h2, h1, fun cx τ F w v hw hr => ?_⟩
    cases hr with
    | ro _ _ _ _ A c f p1 p2 p3 p4 p5 =>
      exact ⟨A, c, rfl, p4, f, fun hm => let ⟨b, o, hA, _, hc⟩ := p3 hm; ⟨b, o, hA, hc⟩, p5⟩
  · rename_i id m
    split at h
    · rename_i e' esz' n row hl
      obtain ⟨hz, ha⟩ := chk_spec h
      obtain ⟨_, hb⟩ := chk_spec ha
      obtain ⟨hmn, h1, h2⟩ := hb
      have hzz := Nat.eq_of_beq_eq_true hz
      subst hzz
      refine ⟨m, row, h2, h1, fun cx τ F w v hw hr => ?_⟩
      cases hr with
      | sl _ _ _ A n' c hτ hm' hc hA =>
        obtain ⟨u, q1, xs, q2, q3, q4⟩ := hw.obj id _ hl
        rw [hτ] at q1; injection q1 with q1; subst q1
        refine ⟨A, c, rfl, fun i hi => q3 i (by omega), fun i j => xs.getD (i * esz' + j) undef, fun hm => ?_, fun i j x hi hx => q4 i j x (by omega) hx⟩
        rcases q2.2 with ⟨h', h0⟩ | ⟨g, cap, cur, hv, _, hg, hnc, hcm, hcs, htk⟩
        · omega
        · simp only [Value.slice.injEq] at hv
          obtain ⟨rfl, rfl, rfl⟩ := hv
          refine ⟨g, 0, rfl, fun i j hi hj => ?_⟩
          have hlt : i * esz' + j < n' * esz' := by
            have : (i + 1) * esz' ≤ n' * esz' := Nat.mul_le_mul_right _ (by omega)
            rw [Nat.add_mul, Nat.one_mul] at this; omega
          rw [cell_of_row _ _ _ _ _ _ hg]
          have hx : cur[0 + i * esz' + j]? = xs[i * esz' + j]? := by
            rw [← htk, List.getElem?_take, if_pos hlt]; simp
          rw [hx]
          have : i * esz' + j < xs.length := by rw [q2.1]; exact hlt
          simp [List.getElem?_eq_getElem this]
    · exact h.elim
  · exact h.elim

/-- The cells of a source, side by side. -/
theorem src_news {F : Nat → Prop} {w : World} {esz m : Nat} {row : Nat → List AV} {v : Value} (hpos : 0 < esz) (h : SrcAt F w esz m row v) (hone : ∀ i, i < m → (row i).all AV.oneB = true) :
    ∃ (A : Option Addr) (c : Nat) (news : List Value), v = .slice A m c ∧ news.length = m * esz ∧ (0 < m → ∃ b o, A = some ⟨b, o, none⟩ ∧ ∀ (j : Nat) (u : Value), news[j]? = some u → w.cell? ((⟨b, o, none⟩ : Addr).add j) = some u) ∧ (∀ u ∈ news, u.oneCell' = true) ∧
      ∀ i j x, i < m → (row i)[j]? = some x → Rep F w (fun _ => none) x (news.getD (i * esz + j) undef) := by
  obtain ⟨A, c, rfl, hlen, f, hA, hrep⟩ := h
  have hdm : ∀ k, k < m * esz → k / esz < m ∧ k % esz < esz := fun k hk => ⟨by rw [Nat.div_lt_iff_lt_mul hpos]; exact hk, Nat.mod_lt _ hpos⟩
  refine ⟨A, c, (List.range (m * esz)).map fun k => f (k / esz) (k % esz), rfl, by simp, fun hm => ?_, fun u hu => ?_, fun i j x hi hx => ?_⟩
  · obtain ⟨b, o, hA', hc⟩ := hA hm
    refine ⟨b, o, hA', fun j u hj => ?_⟩
    rw [List.getElem?_map] at hj
    cases hr : (List.range (m * esz))[j]? with
    | none => rw [hr] at hj; cases hj
    | some k =>
      rw [hr] at hj; injection hj with hj; subst hj
      have hk : j < m * esz := by have := (List.getElem?_eq_some_iff.1 hr).1; simpa using this
      have : k = j := by rw [List.getElem?_range hk] at hr; injection hr with hr; exact hr.symm
      subst this
      rw [add_none]
      have := hc (k / esz) (k % esz) (hdm k hk).1 (hdm k hk).2
      rw [Nat.add_assoc, Nat.mul_comm, Nat.div_add_mod] at this
      exact this
  · obtain ⟨k, hk, rfl⟩ := List.mem_map.1 hu
    have hk : k < m * esz := by simpa using hk
    have hlt : k % esz < (row (k / esz)).length := by rw [hlen _ (hdm k hk).1]; exact (hdm k hk).2
    exact oneB_sound (hrep _ _ _ (hdm k hk).1 (List.getElem?_eq_getElem hlt)) (List.all_eq_true.1 (hone _ (hdm k hk).1) _ (List.getElem_mem hlt))
  · have hj0 : j < (row i).length := (List.getElem?_eq_some_iff.1 hx).1
    have hj : j < esz := by rw [hlen i hi] at hj0; exact hj0
    have hlt : i * esz + j < m * esz := by
      have : (i + 1) * esz ≤ m * esz := Nat.mul_le_mul_right _ hi
      rw [Nat.add_mul, Nat.one_mul] at this; omega
    have e1 : (i * esz + j) / esz = i := by
      rw [Nat.mul_comm, Nat.mul_add_div hpos, Nat.div_eq_of_lt hj]; simp
    have e2 : (i * esz + j) % esz = j := by
      rw [Nat.mul_comm, Nat.mul_add_mod, Nat.mod_eq_of_lt hj]
    have e3 : ((List.range (m * esz)).map fun k => f (k / esz) (k % esz)).getD (i * esz + j) undef = f i j := by
      rw [List.getD_eq_getElem?_getD, List.getElem?_map, List.getElem?_range hlt]
      simp [e1, e2]
    rw [e3]; exact hrep i j x hi hx

/-- append, as the model runs it, from such a source. -/
theorem append_run {P : Program} {t e esz by_ ty : Nat} (hok : (TI.slice e esz by_).okB P t = true) {zs : List Value} (hz : zeroCells P e = some zs) (hzl : zs.length = esz) {w : World} {v : Value} {n : Nat} {xs : List Value} (hown : w.ownsRow 0 e esz v n xs)
    {F : Nat → Prop} {m : Nat} {row : Nat → List AV} {u : Value} (hs : SrcAt F w esz m row u) (hone : ∀ i, i < m → (row i).all AV.oneB = true) (hby0 : 0 < by_) (hbytes : (n + m) * by_ ≤ 140737488355328) :
    ∃ (v' : Value) (w' : World) (news : List Value), (Builtin.append_ #[t, t] ty #[v, u]).run P w = .ok v' w' ∧ w'.ownsRow 0 e esz v' (n + m) (xs ++ news) ∧ w.grownBy w' v.ownBlock ∧ (v'.ownBlock = v.ownBlock ∨ v'.ownBlock = some w.heap.size) ∧ news.length = m * esz ∧
      ∀ i j x, i < m → (row i)[j]? = some x → Rep F w (fun _ => none) x (news.getD (i * esz + j) undef) := by
  obtain ⟨fi, hu, hi, hsz', hpos', hby⟩ := ok_slice hok
  obtain ⟨i', z, hi', hzz, hzc⟩ := zero_info hz
  rw [hi] at hi'; injection hi' with hi'; subst hi'
  obtain ⟨A, c, news, rfl, hnl, hA, h1, hrep⟩ := src_news hpos' hs hone
  have hzs : z.cells.size = esz := by rw [← hzl, ← hzc]; simp
  have hnm : n + m ≤ maxLen := by
    have : n + m ≤ (n + m) * by_ := Nat.le_mul_of_pos_right _ hby0
    unfold maxLen; omega
  by_cases hm : m = 0
  · subst hm
    have hn0 : news = [] := List.eq_nil_of_length_eq_zero (by simpa using hnl)
    subst hn0
    cases A with
    | none =>
      have hr : (Builtin.append_ #[t, t] ty #[v, .slice none 0 c]).run P w = .ok v w := by
        rcases hown.2 with ⟨rfl, rfl⟩ | ⟨g, cap, cur, rfl, _, _, hnc, _⟩
        · simp [Builtin.append_, run_underlying hu, sizeOf, typeInfo, hi, Builtin.lenOf, Builtin.firstCells]
        · simp [Builtin.append_, run_underlying hu, sizeOf, typeInfo, hi, Builtin.lenOf, Builtin.firstCells, hnc, storeCells]
      exact ⟨v, w, [], hr, by simpa using hown, ⟨rfl, rfl, rfl, Nat.le_refl _, fun _ _ _ => rfl⟩, .inl rfl, by simp, fun i j x hi => absurd hi (by omega)⟩
    | some ad =>
      obtain ⟨v', w', q1, q2, q3, _, q4⟩ := run_append_own_at (P := P) w 0 t ty e fi z esz by_ hu hi hzz hsz' hby hzs hpos' v n xs hown ad 0 c [] (by simp) (fun j u h => by simp at h) (fun u h => by simp at h) hnm hbytes (Nat.zero_le _)
      exact ⟨v', w', [], q1, q2, q3, q4, by simp, fun i j x hi => absurd hi (by omega)⟩
  · obtain ⟨b, o, rfl, hc⟩ := hA (by omega)
    obtain ⟨v', w', q1, q2, q3, _, q4⟩ := run_append_own_at (P := P) w 0 t ty e fi z esz by_ hu hi hzz hsz' hby hzs hpos' v n xs hown ⟨b, o, none⟩ m c news hnl hc h1 hnm hbytes (Nat.zero_le _)
    exact ⟨v', w', news, q1, q2, q3, q4, hnl, hrep⟩
end Go.Abs

namespace Go.Abs
open Go Go.RowKit
set_option linter.unusedVariables false

theorem own_form {w : World} {e esz n m c : Nat} {A : Option Addr} {xs : List Value} (h : w.ownsRow 0 e esz (.slice A m c) n xs) : m = n := by
  rcases h.2 with ⟨h', h0⟩ | ⟨g, cap, cur, hv, _⟩
  · simp only [Value.slice.injEq] at h'; omega
  · simp only [Value.slice.injEq] at hv; exact hv.2.1

theorem appV_sound {cx τ F s a w} (h : RelA cx τ F s a w) {d e esz by_ t ty m : Nat} {x : AV} {row : Nat → List AV} {K : St → Prop} (ha : appV s d e esz by_ x m row K) (hd : d < cx.n) (hf : look s.heap d = none)
    (hok : (TI.slice e esz by_).okB cx.P t = true) {zs : List Value} (hz : zeroCells cx.P e = some zs) (hzl : zs.length = esz) (hby0 : 0 < by_) {u v : Value} (hs : SrcAt F w esz m row u) (hone : ∀ i, i < m → (row i).all AV.oneB = true) (hx : Rep F w τ x v) :
    ∃ v' w' s', (Builtin.append_ #[t, t] ty #[v, u]).run cx.P w = .ok v' w' ∧ K s' ∧ Rel cx s' (a.put (some d) v') w' := by
  have hrl : ∀ i, i < m → (row i).length = esz := by obtain ⟨_, _, _, h, _⟩ := hs; exact h
  unfold appV at ha
  split at ha
  · obtain ⟨hbytes, hK⟩ := ha
    cases hx
    have hown : w.ownsRow 0 e esz (.slice none 0 0) 0 [] := ⟨by simp, .inl ⟨rfl, rfl⟩⟩
    obtain ⟨v', w', news, q1, q2, q3, q4, q5, q6⟩ := append_run (ty := ty) hok hz hzl hown hs hone hby0 (by simpa using hbytes)
    have hc := h.change q3 (fun k hk => by simp [Value.ownBlock] at hk)
    have hF : ∀ k, F k → w'.heap[k]? = w.heap[k]? := fun k hk => q3.block k (h.wr.fz k hk) (by simp [Value.ownBlock])
    simp only [Nat.zero_add, List.nil_append] at q2
    refine ⟨v', w', _, q1, hK, hc.add hd hf (v := v') (fun b hb => ?_) fun τ' hτ hτd => ⟨⟨news, q2, hrl, fun i j y hi hy => (q6 i j y hi hy).mono (fun _ h => h) hF (fun _ _ h => by cases h)⟩, own_sl q2 hτd⟩⟩
    have hlt := own_lt q2 hb
    rw [own_hblk q2] at hb
    have hbe : b = w.heap.size := by
      rcases q4 with q4 | q4
      · rw [q4] at hb; simp [Value.ownBlock] at hb
      · rw [q4] at hb; injection hb with hb; exact hb.symm
    subst hbe
    refine ⟨⟨.inl h.wr.keeps.size, hlt⟩, fun hFk => absurd (h.wr.fz _ hFk) (by omega), fun id u hu e => ?_⟩
    have := (h.wr.tlt id u _ hu e).2; omega
  · rename_i id n
    split at ha
    · rename_i e' esz' n' row' hl
      obtain ⟨hz1, ha⟩ := chk_spec ha
      obtain ⟨hz2, ha⟩ := chk_spec ha
      obtain ⟨hz3, ha⟩ := chk_spec ha
      obtain ⟨hnn, hbytes, hK⟩ := ha
      have e1 := Nat.eq_of_beq_eq_true hz1
      have e2 := Nat.eq_of_beq_eq_true hz2
      have hne : id ≠ d := by rintro rfl; simp at hz3
      subst e1 e2 hnn
      cases hx with
      | sl _ _ _ A m' c hτ hm' hc' hA =>
        obtain ⟨hv, r1, xs, hown, r3, r4⟩ := h.wr.obj id _ hl
        rw [hτ] at r1; injection r1 with r1; subst r1
        have hmn := own_form hown
        subst hmn
        obtain ⟨v', w', news, q1, q2, q3, q4, q5, q6⟩ := append_run (ty := ty) hok hz hzl hown hs hone hby0 hbytes
        have hdrop := h.drop id
        have hb0 : ∀ k, (Value.slice A m' c).ownBlock = some k → hblk (Value.slice A m' c) = some k := fun k hk => by rw [own_hblk hown]; exact hk
        have hwo : ∀ i u, without τ id i = some u → i ≠ id ∧ τ i = some u := fun i u hu => by
          unfold without at hu
          split at hu
          · cases hu
          · rename_i e; exact ⟨e, hu⟩
        have hrow : ∀ k, (Value.slice A m' c).ownBlock = some k → (cx.w.heap.size ≤ k ∨ cx.X k) ∧ (¬ F k) ∧ ∀ i u, without τ id i = some u → hblk u ≠ some k := fun k hk =>
          ⟨(h.wr.tlt id _ k hτ (hb0 k hk)).1, fun hFk => h.wr.fne k id _ hFk hτ (hb0 k hk), fun i u hu e => (hwo i u hu).1 (h.wr.inj i id u _ k (hwo i u hu).2 hτ e (hb0 k hk))⟩
        have hc := hdrop.change q3 hrow
        have hF : ∀ k, F k → w'.heap[k]? = w.heap[k]? := fun k hk => q3.block k (h.wr.fz k hk) (fun e => (hrow k e.symm).2.1 hk)
        have hfd : look (s.drop id).heap d = none := by
          simp only [St.drop]
          rw [look_map (fun o : HO => o.keep fun k => !Nat.beq k id), look_filter, if_neg (fun e => hne e.symm), hf]; rfl
        have hmono : ∀ y z, Rep F w (fun _ => none) y z → Rep F w' (fun _ => none) y z := fun y z hr => hr.mono (fun _ h => h) hF (fun _ _ h => by cases h)
        refine ⟨v', w', _, q1, hK, hc.add hd hfd (v := v') (fun b hb => ?_) fun τ' hτ' hτd => ⟨⟨xs ++ news, q2, fun i hi => ?_, fun i j y hi hy => ?_⟩, own_sl q2 hτd⟩⟩
        · have hlt := own_lt q2 hb
          rw [own_hblk q2] at hb
          rcases q4 with q4 | q4
          · rw [q4] at hb
            exact ⟨⟨(hrow b hb).1, hlt⟩, (hrow b hb).2⟩
          · rw [q4] at hb; injection hb with hb; subst hb
            refine ⟨⟨.inl h.wr.keeps.size, hlt⟩, fun hFk => absurd (h.wr.fz _ hFk) (by omega), fun i u hu e => ?_⟩
            have := (h.wr.tlt i u _ (hwo i u hu).2 e).2; omega
        · by_cases hi' : i < m'
          · simp only [hi', if_true]; exact r3 i hi'
          · simp only [hi', if_false]; exact hrl _ (by omega)
        · by_cases hi' : i < m'
          · simp only [hi', if_true] at hy
            have hj : j < esz' := by have h1 : j < (row' i).length := (List.getElem?_eq_some_iff.1 hy).1; rw [r3 i hi'] at h1; exact h1
            have hlt : i * esz' + j < m' * esz' := by
              have : (i + 1) * esz' ≤ m' * esz' := Nat.mul_le_mul_right _ hi'
              rw [Nat.add_mul, Nat.one_mul] at this; omega
            have e3 : (xs ++ news).getD (i * esz' + j) undef = xs.getD (i * esz' + j) undef := by
              simp only [List.getD_eq_getElem?_getD]
              rw [List.getElem?_append_left (by rw [hown.1]; exact hlt)]
            rw [e3]; exact hmono _ _ (r4 i j y hi' hy)
          · simp only [hi', if_false] at hy
            have e3 : (xs ++ news).getD (i * esz' + j) undef = news.getD ((i - m') * esz' + j) undef := by
              simp only [List.getD_eq_getElem?_getD]
              have hle : m' * esz' ≤ i * esz' := Nat.mul_le_mul_right _ (by omega)
              rw [List.getElem?_append_right (by rw [hown.1]; omega), hown.1, Nat.sub_mul]
              congr 2; omega
            rw [e3]; exact hmono _ _ (q6 (i - m') j y (by omega) hy)
    · exact ha.elim
  · exact ha.elim

/-- A store into an own row. -/
theorem RelA.writeRow {cx τ F s a w} (h : RelA cx τ F s a w) {id e esz n i off : Nat} {row : Nat → List AV} (hl : look s.heap id = some (.row e esz n row)) {b m c : Nat} (hτ : τ id = some (.slice (some ⟨b, 0, none⟩) m c)) (hi : i < n) {cs : List AV}
    (hoff : off + cs.length ≤ esz) {v : Value} (hsz : v.cells.size = cs.length) (hrep : ∀ (j : Nat) (x : AV), cs[j]? = some x → Rep F w τ x (v.cells.getD j undef)) (hone : cs.all AV.oneB = true) (hp : AV.pureL cs = true) :
    ∃ w', (storeCells ⟨b, i * esz + off, none⟩ v.cells.toList 0).run cx.P w = .ok () w' ∧ RelA cx τ F { s with heap := setHeap s.heap id (.row e esz n fun j => if j = i then (row i).take off ++ cs ++ (row i).drop (off + cs.length) else row j) } a w' := by
  obtain ⟨u, h1, xs, hown, hrl, hrr⟩ := h.wr.obj id _ hl
  rw [hτ] at h1; injection h1 with h1; subst h1
  have hmn := own_form hown
  subst hmn
  rcases hown.2 with ⟨h', _⟩ | ⟨g, cap, cur, hv, _, hg, hnc, hcm, hcs, htk⟩
  · cases h'
  simp only [Value.slice.injEq, Option.some.injEq, Addr.mk.injEq, and_true, true_and] at hv
  obtain ⟨rfl, rfl⟩ := hv
  have hall : ∀ x ∈ v.cells.toList, x.oneCell' = true := by
    intro x hx
    obtain ⟨j, hj, rfl⟩ := List.getElem_of_mem hx
    have hj' : j < cs.length := by simpa [hsz] using hj
    have e := hrep j _ (List.getElem?_eq_getElem hj')
    have e2 : v.cells.getD j undef = v.cells.toList[j] := by
      have : j < v.cells.size := by omega
      simp [this]
    rw [e2] at e
    exact oneB_sound e (List.all_eq_true.1 hone _ (List.getElem_mem hj'))
  have hrow1 : (i + 1) * esz ≤ m * esz := Nat.mul_le_mul_right _ hi
  rw [Nat.add_mul, Nat.one_mul] at hrow1
  have hcap : m * esz ≤ cur.size := by rw [hcs]; exact Nat.mul_le_mul_right _ hnc
  have hrun := run_storeCells_at cx.P b (i * esz + off) e v.cells.toList 0 cur w hg (by simp [hsz]; omega) hall
  refine ⟨_, hrun, ?_⟩
  simp only [Nat.add_zero, Array.length_toList] at hrun ⊢
  generalize hnew : (cur.toList.take (i * esz + off) ++ v.cells.toList ++ cur.toList.drop (i * esz + off + v.cells.size)).toArray = c' at hrun ⊢
  have hw' : (w.setRow b c').heap[b]? = some (.cells c' e (0, 0)) := setRow_heap w b cur c' e _ hg
  have hother : ∀ k, k ≠ b → (w.setRow b c').heap[k]? = w.heap[k]? := fun k hk => by
    simp only [World.setRow, Array.getElem?_modify]; rw [if_neg (fun e => hk e.symm)]
  have hsize : (w.setRow b c').heap.size = w.heap.size := by simp [World.setRow]
  have htl := h.wr.tlt id _ b hτ rfl
  have hFb : ∀ k, F k → k ≠ b := fun k hk e => h.wr.fne k id _ hk hτ (by subst e; rfl)
  have hF : ∀ k, F k → (w.setRow b c').heap[k]? = w.heap[k]? := fun k hk => hother k (hFb k hk)
  have hmono : ∀ x u, Rep F w τ x u → Rep F (w.setRow b c') τ x u := fun x u hr => hr.mono (fun _ h => h) hF (fun _ _ h => h)
  have hmono0 : ∀ x u, Rep F w (fun _ => none) x u → Rep F (w.setRow b c') (fun _ => none) x u := fun x u hr => hr.mono (fun _ h => h) hF (fun _ _ h => h)
  have hc's : c'.size = cur.size := by subst hnew; simp [hsz]; omega
  have hxs' : xs.length = m * esz := hown.1
  -- what the row holds now
  have hget : ∀ k, c'[k]? = if k < i * esz + off then cur[k]? else if k < i * esz + off + cs.length then v.cells[k - (i * esz + off)]? else cur[k]? := by
    intro k
    subst hnew
    simp only [List.getElem?_toArray]
    have hlen : (cur.toList.take (i * esz + off)).length = i * esz + off := by simp; omega
    by_cases k1 : k < i * esz + off
    · rw [if_pos k1, List.append_assoc, List.getElem?_append_left (by omega), List.getElem?_take, if_pos k1]; simp
    · rw [if_neg k1]
      by_cases k2 : k < i * esz + off + cs.length
      · rw [if_pos k2, List.append_assoc, List.getElem?_append_right (by omega), List.getElem?_append_left (by simp [hlen, hsz]; omega), hlen]; simp
      · have hlen2 : (cur.toList.take (i * esz + off) ++ v.cells.toList).length = i * esz + off + cs.length := by simp [hsz]; omega
        rw [if_neg k2, List.getElem?_append_right (by omega), hlen2, List.getElem?_drop, hsz, show i * esz + off + cs.length + (k - (i * esz + off + cs.length)) = k by omega]; simp
  refine ⟨⟨⟨h.wr.keeps.os, h.wr.keeps.tape, h.wr.keeps.output, by rw [hsize]; exact h.wr.keeps.size, fun k hk hx => ?_⟩, fun k hk => by rw [hsize]; exact h.wr.fz k hk, h.wr.fne, h.wr.fsub, h.wr.fsup, fun id v b hv hk => by rw [hsize]; exact h.wr.tlt id v b hv hk, h.wr.inj, fun id' o hl' => ?_, fun id' u hu => ?_⟩, h.size, h.defers, fun t x ht => ⟨(h.env t x ht).1, hmono _ _ (h.env t x ht).2⟩⟩
  · rw [hother k (by rintro rfl; rcases htl.1 with h | h; omega; exact hx h)]; exact h.wr.keeps.block k hk hx
  · rw [look_setHeap] at hl'
    split at hl'
    · rename_i e0; subst e0
      rw [hl] at hl'; simp only [Option.map_some, Option.some.injEq] at hl'; subst hl'
      refine ⟨_, hτ, (c'.toList.take (m * esz)), ⟨by simp; omega, .inr ⟨b, c, c', rfl, Nat.zero_le _, hw', hnc, hcm, by rw [hc's, hcs], rfl⟩⟩, fun k hk => ?_, fun k j x hk hx => ?_⟩
      · by_cases hki : k = i
        · simp only [hki, if_true]
          have := hrl i hi
          simp; omega
        · simp only [hki, if_false]; exact hrl k hk
      · have hkrow : (k + 1) * esz ≤ m * esz := Nat.mul_le_mul_right _ hk
        rw [Nat.add_mul, Nat.one_mul] at hkrow
        have hgd : ∀ q, q < m * esz → (c'.toList.take (m * esz)).getD q undef = c'.getD q undef := fun q hq => by
          simp only [List.getD_eq_getElem?_getD, List.getElem?_take, if_pos hq, Array.getD_eq_getD_getElem?]; simp
        have hold : ∀ q, q < m * esz → cur.getD q undef = xs.getD q undef := fun q hq => by
          rw [← htk]; simp only [List.getD_eq_getElem?_getD, List.getElem?_take, if_pos hq, Array.getD_eq_getD_getElem?]; simp
        by_cases hki : k = i
        · subst hki
          simp only [if_true] at hx
          have hlr := hrl k hk
          by_cases j1 : j < off
          · rw [List.append_assoc, List.getElem?_append_left (by simp; omega), List.getElem?_take, if_pos j1] at hx
            have hlt : k * esz + j < m * esz := by omega
            rw [hgd _ hlt, Array.getD_eq_getD_getElem?, hget, if_pos (by omega), ← Array.getD_eq_getD_getElem?, hold _ hlt]
            exact hmono0 _ _ (hrr k j x hk hx)
          · have hlen : ((row k).take off).length = off := by simp; omega
            by_cases j2 : j < off + cs.length
            · rw [List.append_assoc, List.getElem?_append_right (by omega), List.getElem?_append_left (by omega), hlen] at hx
              have hlt : k * esz + j < m * esz := by omega
              rw [hgd _ hlt, Array.getD_eq_getD_getElem?, hget, if_neg (by omega), if_pos (by omega), ← Array.getD_eq_getD_getElem?, show k * esz + j - (k * esz + off) = j - off by omega]
              exact hmono0 _ _ ((hrep (j - off) x hx).pure (pureL_at hp _ _ hx))
            · have hlen2 : ((row k).take off ++ cs).length = off + cs.length := by simp; omega
              rw [List.getElem?_append_right (by omega), hlen2, List.getElem?_drop, show off + cs.length + (j - (off + cs.length)) = j by omega] at hx
              have hjl : j < esz := by have h1 : j < (row k).length := (List.getElem?_eq_some_iff.1 hx).1; omega
              have hlt : k * esz + j < m * esz := by omega
              rw [hgd _ hlt, Array.getD_eq_getD_getElem?, hget, if_neg (by omega), if_neg (by omega), ← Array.getD_eq_getD_getElem?, hold _ hlt]
              exact hmono0 _ _ (hrr k j x hk hx)
        · simp only [hki, if_false] at hx
          have hjl : j < esz := by have h1 : j < (row k).length := (List.getElem?_eq_some_iff.1 hx).1; rw [hrl k hk] at h1; exact h1
          have hlt : k * esz + j < m * esz := by omega
          have hfar : k * esz + j < i * esz + off ∨ ¬ k * esz + j < i * esz + off + cs.length := by
            rcases Nat.lt_or_ge k i with hki' | hki'
            · have : (k + 1) * esz ≤ i * esz := Nat.mul_le_mul_right _ hki'
              rw [Nat.add_mul, Nat.one_mul] at this; omega
            · have : (i + 1) * esz ≤ k * esz := Nat.mul_le_mul_right _ (by omega)
              rw [Nat.add_mul, Nat.one_mul] at this; omega
          have hsame : c'[k * esz + j]? = cur[k * esz + j]? := by
            rw [hget]
            rcases hfar with hf | hf
            · rw [if_pos hf]
            · by_cases q : k * esz + j < i * esz + off
              · rw [if_pos q]
              · rw [if_neg q, if_neg hf]
          rw [hgd _ hlt, Array.getD_eq_getD_getElem?, hsame, ← Array.getD_eq_getD_getElem?, hold _ hlt]
          exact hmono0 _ _ (hrr k j x hk hx)
    · rename_i hne
      obtain ⟨u, q1, q2⟩ := h.wr.obj id' o hl'
      refine ⟨u, q1, q2.mono (fun _ h => h) hF (fun _ _ h => h) fun b' hb' => hother b' ?_⟩
      rintro rfl
      exact hne (h.wr.inj id' id u _ b' q1 hτ hb' rfl)
  · rw [look_setHeap]
    obtain ⟨o, ho⟩ := h.wr.dom id' u hu
    by_cases e0 : id' = id
    · subst e0; rw [if_pos rfl, hl]; exact ⟨_, rfl⟩
    · rw [if_neg e0]; exact ⟨o, ho⟩
end Go.Abs

namespace Go.Abs
open Go Go.RowKit
set_option linter.unusedVariables false

def Exact (x : AV) (v : Value) : Prop := ∀ F w τ, Rep F w τ x v ∧ ∀ u, Rep F w τ x u → u = v

mutual
theorem exact_spec : ∀ (x : AV) (v : Value), x.exact = some v → Exact x v
  | .val v, u, h => by
    simp only [AV.exact, Option.some.injEq] at h; subst h
    exact fun F w τ => ⟨.val _ _, fun u hu => by cases hu; rfl⟩
  | .agg cs, u, h => by
    simp only [AV.exact, Option.map_eq_some_iff] at h
    obtain ⟨vs, h, rfl⟩ := h
    obtain ⟨hl, hs⟩ := exactL_spec cs vs h
    refine fun F w τ => ⟨.agg _ _ _ (by simpa using hl.symm) (fun j c hc => ?_), fun u hu => ?_⟩
    · have := (hs j c hc F w τ).1; simpa using this
    · cases hu with
      | agg _ _ us ul uh =>
        congr 1
        apply Array.ext
        · simp [← ul, ← hl]
        · intro j h1 h2
          have hj : j < cs.length := by omega
          have e := (hs j _ (List.getElem?_eq_getElem hj) F w τ).2 _ (uh j _ (List.getElem?_eq_getElem hj))
          have h3 : j < vs.length := by omega
          simp [h1, h3] at e
          simpa using e
  | .tup cs, u, h => by
    simp only [AV.exact, Option.map_eq_some_iff] at h
    obtain ⟨vs, h, rfl⟩ := h
    obtain ⟨hl, hs⟩ := exactL_spec cs vs h
    refine fun F w τ => ⟨.tup _ _ _ (by simpa using hl.symm) (fun j c hc => ?_), fun u hu => ?_⟩
    · have := (hs j c hc F w τ).1; simpa using this
    · cases hu with
      | tup _ _ us ul uh =>
        congr 1
        apply Array.ext
        · simp [← ul, ← hl]
        · intro j h1 h2
          have hj : j < cs.length := by omega
          have e := (hs j _ (List.getElem?_eq_getElem hj) F w τ).2 _ (uh j _ (List.getElem?_eq_getElem hj))
          have h3 : j < vs.length := by omega
          simp [h1, h3] at e
          simpa using e
  | .ro _ _ _, u, h => by simp [AV.exact] at h
  | .ptr _, u, h => by simp [AV.exact] at h
  | .obj _ _, u, h => by simp [AV.exact] at h
  | .sl _ _, u, h => by simp [AV.exact] at h
  | .rp _ _ _ _, u, h => by simp [AV.exact] at h
  | .cond _ _, u, h => by simp [AV.exact] at h
  | .any, u, h => by simp [AV.exact] at h
theorem exactL_spec : ∀ (cs : List AV) (vs : List Value), AV.exactL cs = some vs → vs.length = cs.length ∧ ∀ (j : Nat) (c : AV), cs[j]? = some c → Exact c (vs.getD j undef)
  | [], vs, h => by simp only [AV.exactL, Option.some.injEq] at h; subst h; exact ⟨rfl, fun j c hc => by simp at hc⟩
  | x :: r, vs, h => by
    simp only [AV.exactL] at h
    split at h
    · rename_i v vs' hv hvs
      injection h with h; subst h
      obtain ⟨hl, hs⟩ := exactL_spec r vs' hvs
      refine ⟨by simp [hl], fun j c hc => ?_⟩
      cases j with
      | zero => simp at hc; subst hc; exact exact_spec x v hv
      | succ j => simpa using hs j c (by simpa using hc)
    · cases h
end


theorem blt_lt {a b : Nat} (h : Nat.blt a b = true) : a < b := by simpa [Nat.blt_eq] using h

theorem fnB_call {P : Program} {f : FuncId} (h : fnB P f = true) (args : Array Value) (w : World) : (callFunc f args).run P w = .ok (.enter f args) w := by
  unfold fnB at h
  split at h
  · rename_i fn hf
    simp only [Bool.and_eq_true, bne_iff_ne, ne_eq] at h
    have h2 : fn.body.isNone = false := by simpa using h.2
    have h3 : (fn.name == "runtime.NumGoroutine") = false := by simpa using h.1
    simp only [callFunc, Sem.run_bind, run_program, Result.andThen_ok, hf, h3, h2]
    rfl
  · cases h

theorem call_run {P : Program} {f : FuncId} (h : fnB P f = true) {a : Act} {o : Oper} {as : Array Operand} {ts : Array TypeId} (ho : o.op = .call { callee := .value (.func f), args := as, argTypes := ts }) (w : World) :
    (execOp a.eval o).run P w = .ok (.enter f (as.map a.eval)) w := by
  simp only [execOp, ho, Sem.run_bind, resolve, Act.eval, Deferred.ofValue, Sem.run_pure, Result.andThen_ok, invoke, Array.empty_append, Array.append_empty]
  exact fnB_call h _ w

/-- The arguments as the contract asks them. -/
theorem args_rep {F : Nat → Prop} {τ : Nat → Option Value} {w : World} {a : Act} {as : Array Operand} {ys : List AV} (hl : ys.length = as.toList.length) (hp : AV.pureL ys = true)
    (hr : ∀ (j : Nat) (y : AV), ys[j]? = some y → ∃ x, as.toList[j]? = some x ∧ Rep F w τ y (a.eval x)) :
    (as.map a.eval).toList.length = ys.length ∧ ∀ (j : Nat) (x : AV), ys[j]? = some x → Rep F w (fun _ => none) x ((as.map a.eval).toList.getD j undef) := by
  refine ⟨by simp [hl], fun j x hx => ?_⟩
  obtain ⟨o, ho, hro⟩ := hr j x hx
  have : (as.map a.eval).toList.getD j undef = a.eval o := by
    rw [Array.toList_map, List.getD_eq_getElem?_getD, List.getElem?_map, ho]; rfl
  rw [this]
  exact hro.pure (pureL_at hp j x hx)

/-- The arguments as the contract asks them, own rows lent. -/
theorem lent_rep {cx : Cx} {F : Nat → Prop} {τ : Nat → Option Value} {s : St} {w : World} (hw : RelW cx τ F s w) : ∀ (ys : List AV), AV.pureL (borrowL s ys).1 = true →
    ∃ F1 : Nat → Prop, (∀ k, F k → F1 k) ∧ (∀ k, F1 k → k < w.heap.size) ∧ ((borrowL s ys).2 = false → ∀ k, F1 k → F k) ∧ (borrowL s ys).1.length = ys.length ∧
      ∀ (vs : List Value), (∀ (j : Nat) (y : AV), ys[j]? = some y → Rep F w τ y (vs.getD j undef)) → ∀ (j : Nat) (x : AV), (borrowL s ys).1[j]? = some x → Rep F1 w (fun _ => none) x (vs.getD j undef)
  | [], _ => ⟨F, fun _ h => h, hw.fz, fun _ _ h => h, rfl, fun _ _ j x h => by simp [borrowL] at h⟩
  | y :: r, hp => by
    simp only [borrowL, AV.pureL, Bool.and_eq_true] at hp
    obtain ⟨F1, q1, q2, q3, q4, q5⟩ := lent_rep hw r hp.2
    have one : ∃ F2 : Nat → Prop, (∀ k, F k → F2 k) ∧ (∀ k, F2 k → k < w.heap.size) ∧ ((borrow s y).2 = false → ∀ k, F2 k → F k) ∧ ∀ v, Rep F w τ y v → Rep F2 w (fun _ => none) (borrow s y).1 v := by
      have same : (borrow s y) = (y, false) → ∃ F2 : Nat → Prop, (∀ k, F k → F2 k) ∧ (∀ k, F2 k → k < w.heap.size) ∧ ((borrow s y).2 = false → ∀ k, F2 k → F k) ∧ ∀ v, Rep F w τ y v → Rep F2 w (fun _ => none) (borrow s y).1 v := fun e =>
        ⟨F, fun _ h => h, hw.fz, fun _ _ h => h, fun v hv => by rw [e] at hp ⊢; exact hv.pure hp.1⟩
      cases hy : y with
      | sl id m =>
        cases hl : look s.heap id with
        | none => rw [← hy]; exact same (by rw [hy]; simp [borrow, hl])
        | some o =>
          cases o with
          | cells cs => rw [← hy]; exact same (by rw [hy]; simp [borrow, hl])
          | row e esz n f =>
            have e1 : borrow s (.sl id m) = (.ro esz m f, true) := by simp [borrow, hl]
            rw [e1]
            obtain ⟨u, r1, r2⟩ := hw.obj id _ hl
            refine ⟨fun k => F k ∨ hblk u = some k, fun k hk => .inl hk, fun k hk => ?_, fun h => by simp at h, fun v hv => ?_⟩
            · rcases hk with hk | hk
              · exact hw.fz k hk
              · exact (hw.tlt id u k r1 hk).2
            · cases hv with
              | sl _ _ _ A n' c hτ hn hc hA =>
                rw [hτ] at r1; injection r1 with r1; subst r1
                obtain ⟨xs, p1, p2, p3⟩ := r2
                have hnn := own_form p1
                subst hnn
                refine .ro _ _ _ _ _ _ (fun i j => xs.getD (i * esz + j) undef) (by omega) ?_ (fun hm => ?_) (fun i hi => p2 i (by omega)) (fun i j x hi hx => (p3 i j x (by omega) hx).mono (fun _ h => .inl h) (fun _ _ => rfl) (fun _ _ h => by cases h))
                · rcases p1.2 with ⟨h', h0⟩ | ⟨g, cap, cur, hv, _, hg, hnc, hcm, hcs, htk⟩
                  · simp only [Value.slice.injEq] at h'; omega
                  · simp only [Value.slice.injEq] at hv; omega
                · rcases p1.2 with ⟨h', h0⟩ | ⟨g, cap, cur, hv, _, hg, hnc, hcm, hcs, htk⟩
                  · omega
                  · simp only [Value.slice.injEq] at hv
                    obtain ⟨rfl, _, rfl⟩ := hv
                    refine ⟨g, 0, rfl, .inr rfl, fun i j hi hj => ?_⟩
                    have hlt : i * esz + j < n' * esz := by
                      have : (i + 1) * esz ≤ n' * esz := Nat.mul_le_mul_right _ (by omega)
                      rw [Nat.add_mul, Nat.one_mul] at this; omega
                    rw [cell_of_row _ _ _ _ _ _ hg]
                    have hx : cur[0 + i * esz + j]? = xs[i * esz + j]? := by
                      rw [← htk, List.getElem?_take, if_pos hlt]; simp
                    rw [hx]
                    have : i * esz + j < xs.length := by rw [p1.1]; exact hlt
                    simp [List.getElem?_eq_getElem this]
      | _ => rw [← hy]; exact same (by rw [hy]; rfl)
    obtain ⟨F2, r1, r2, r3, r4⟩ := one
    refine ⟨fun k => F1 k ∨ F2 k, fun k hk => .inl (q1 k hk), fun k hk => hk.elim (q2 k) (r2 k), fun hb k hk => ?_, by simp [borrowL, q4], fun vs hvs j x hx => ?_⟩
    · simp only [borrowL, Bool.or_eq_false_iff] at hb
      exact hk.elim (q3 hb.2 k) (r3 hb.1 k)
    · simp only [borrowL] at hx
      cases j with
      | zero =>
        simp at hx; subst hx
        exact (r4 _ (hvs 0 y rfl)).mono (fun _ h => .inr h) (fun _ _ => rfl) (fun _ _ h => by cases h)
      | succ j =>
        have := q5 (vs.drop 1) (fun j y hy => by
          have := hvs (j + 1) y (by simpa using hy)
          simpa [List.getD_eq_getElem?_getD, List.getElem?_drop, Nat.add_comm] using this) j x (by simpa using hx)
        have e : (vs.drop 1).getD j undef = vs.getD (j + 1) undef := by simp [List.getD_eq_getElem?_getD, List.getElem?_drop, Nat.add_comm]
        rw [e] at this
        exact this.mono (fun _ h => .inl h) (fun _ _ => rfl) (fun _ _ h => by cases h)

/-- Behind a call: what the callee has made may be read. -/
theorem RelA.called {cx τ F F' s a w w'} (h : RelA cx τ F s a w) (hb : Below w.heap.size w w') (h1 : ∀ k, F k → F' k) (h2 : ∀ k, F' k → F k ∨ w.heap.size ≤ k) (h3 : ∀ k, F' k → k < w'.heap.size) : RelA cx τ F' s a w' := by
  refine (h.later hb).more h1 h3 (fun k id v hk hv e => ?_) (fun k hk => ?_)
  · rcases h2 k hk with h' | h'
    · exact h.wr.fne k id v h' hv e
    · have := (h.wr.tlt id v k hv e).2; omega
  · rcases h2 k hk with h' | h'
    · exact h.wr.fsub k h'
    · exact .inr (Nat.le_trans h.wr.keeps.size h')

theorem zero_run {P : Program} {t : Nat} {vs : List Value} (h : zeroCells P t = some vs) (w : World) : (Instr.alloc t true (.tuple #[])).run P w = .ok (.pointer (some ⟨w.heap.size, 0, none⟩)) (w.alloc (.cells vs.toArray t)) := by
  unfold zeroCells at h
  cases hi : P.info? t with
  | none => rw [hi] at h; cases h
  | some i =>
    cases hz : i.zero with
    | none => rw [hi] at h; simp [hz] at h
    | some z =>
      rw [hi] at h; simp [hz] at h
      subst h
      simp [Instr.alloc, zeroValue, typeInfo, hi, hz, newVar, newRow]

theorem size1 {P : Program} {t : Nat} (h : (match P.info? t with | some i => i.size == 1 | none => false) = true) : ∃ i, P.info? t = some i ∧ i.size = 1 := by
  split at h
  · rename_i i hi; exact ⟨i, hi, by simpa using h⟩
  · cases h

theorem aggSize_info {P : Program} {t : Nat} {ti : TI} (h : ti.okB P t = true) : ∃ i, P.info? t = some i ∧ i.size = ti.aggSize := by
  cases ti with
  | scalar => simp only [TI.okB, Bool.and_eq_true] at h; exact size1 h.2
  | int k => simp only [TI.okB, Bool.and_eq_true] at h; exact size1 h.2
  | bool => simp only [TI.okB, Bool.and_eq_true] at h; exact size1 h.2
  | slice e n _ => simp only [TI.okB, Bool.and_eq_true] at h; exact size1 h.2
  | struct size offs => obtain ⟨fs, i, _, h1, h2, _⟩ := ok_struct h; exact ⟨i, h1, h2⟩
  | array n e _ => obtain ⟨_, _, j, _, _, _, h1, h2, _⟩ := ok_array h; exact ⟨j, h1, h2⟩

theorem box_new {cx τ F s a w} (h : RelA cx τ F s a w) {d : Nat} (hd : d < cx.n) (hf : look s.heap d = none) {cs : List AV} {c : Array Value} (t : Nat) (hsz : c.size = cs.length)
    (hrep : ∀ (j : Nat) (x : AV), cs[j]? = some x → Rep F w τ x (c.getD j undef)) :
    Rel cx (s.new d (.obj d 0) (.cells cs)) (a.put (some d) (.pointer (some ⟨w.heap.size, 0, none⟩))) (w.alloc (.cells c t)) := by
  have hb := below_alloc w (.cells c t)
  refine h.new hd hf (v := .pointer (some ⟨w.heap.size, 0, none⟩)) hb (fun b hb => ?_) (fun τ' hτ hτd => ⟨⟨w.heap.size, c, t, rfl, heap_alloc_new w _, hsz, fun j x hx => ?_⟩, .obj _ _ _ _ hτd⟩)
  · simp only [hblk, Option.some.injEq] at hb; subst hb; simp
  · exact (hrep j x hx).mono (fun _ h => h) (fun k hk => hb.block k (h.wr.fz k hk)) hτ

/-- The soundness of one operation in its turn. -/
theorem aop_sound (B : Tabs) {cx : Cx} (hP : cx.P = B.P) {s : St} {o : Oper} {K : St → Prop} (h : aop B cx.n s o.op o.dst K) {a : Act} {w : World} (hr : Rel cx s a w)
    {next : Act → World → Prop} {Q : Exit → Act → World → Prop} (hn : ∀ s' a' w', K s' → Rel cx s' a' w' → next a' w') : o.wp cx.P a w next Q := by
  obtain ⟨τ, F, hr⟩ := hr
  rw [hP]
  have quiet : ∀ d, o.dst = some d → chk (Nat.blt d cx.n) (qop B.T true s o.op fun y => K (s.put d y)) → o.wp B.P a w next Q := by
    intro d hdst h
    obtain ⟨hd, h⟩ := chk_spec h
    have hd := blt_lt hd
    obtain ⟨y, hy, hs⟩ := qop_sound B.hT h
    obtain ⟨v, h1, h2⟩ := hs cx τ F w a rfl hr
    unfold Oper.wp
    rw [h2 o rfl w (Below.refl _ _), Oper.upon_value, hdst]
    exact hn _ _ _ hy ⟨τ, F, hr.put d y v h1 hd⟩
  unfold aop at h
  split at h
  case h_1 f as ts d hop hdst =>
    obtain ⟨hd, h⟩ := chk_spec h
    have hd := blt_lt hd
    obtain ⟨ys, h, hl, hs⟩ := agets_sound h
    obtain ⟨hp, y, hc, hK⟩ := chk_spec h
    obtain ⟨hpy, hK⟩ := chk_spec hK
    simp only [Bool.and_eq_true, Bool.or_eq_true, Bool.not_eq_true'] at hpy
    obtain ⟨hpy, hex⟩ := hpy
    obtain ⟨hfn, hcall⟩ := hc rfl
    obtain ⟨F1, f1, f2, f3, f4, f5⟩ := lent_rep hr.wr ys hp
    have hargs : ∀ (j : Nat) (z : AV), ys[j]? = some z → Rep F w τ z ((as.map a.eval).toList.getD j undef) := fun j z hz => by
      obtain ⟨ox, ho, hro⟩ := hs F τ w cx.n a rfl hr.env j z hz
      have : (as.map a.eval).toList.getD j undef = a.eval ox := by
        rw [Array.toList_map, List.getD_eq_getElem?_getD, List.getElem?_map, ho]; rfl
      rw [this]; exact hro
    unfold Oper.wp
    rw [call_run hfn hop, Oper.upon_enter]
    have := hcall F1 w (as.map a.eval).toList f2 (by rw [f4]; simp [hl]) (f5 _ hargs)
    rw [Array.toArray_toList] at this
    refine this.mono fun e w' ⟨v, F', he, hb, q1, q2, q3, q4⟩ => ?_
    subst he
    show next (a.put o.dst v) w'
    rw [hdst]
    rcases hex with hex | hex
    · have hback := f3 hex
      exact hn _ _ _ hK ⟨τ, F', (hr.called hb (fun k hk => q1 k (f1 k hk)) (fun k hk => (q2 k hk).imp (hback k) id) q3).put d y v (q4.pure hpy) hd⟩
    · obtain ⟨u, hu⟩ := Option.isSome_iff_exists.1 hex
      have hue := exact_spec y u hu
      have huv := (hue F' w' (fun _ => none)).2 v q4
      subst huv
      exact hn _ _ _ hK ⟨τ, F, (hr.later hb).put d y v (hue F w' τ).1 hd⟩
  case h_2 t d hop hdst =>
    obtain ⟨hd, h⟩ := chk_spec h
    have hd := blt_lt hd
    obtain ⟨hf, h⟩ := chk_spec h
    have hf := Option.isNone_iff_eq_none.1 hf
    split at h
    · rename_i vs hl
      have hz := B.hZ.at_ hl
      unfold Oper.wp
      simp only [execOp, hop]
      rw [exec_value (zero_run hz w), Oper.upon_value, hdst]
      refine hn _ _ _ h (box_new hr hd hf t (by simp) fun j x hx => ?_)
      rw [List.getElem?_map] at hx
      cases hv : vs[j]? with
      | none => rw [hv] at hx; cases hx
      | some v =>
        rw [hv] at hx; injection hx with hx; subst hx
        have : vs.toArray.getD j undef = v := by simp [hv]
        rw [this]; exact .val _ _
    · exact h.elim
  case h_3 t x d hop hdst =>
    obtain ⟨hd, h⟩ := chk_spec h
    have hd := blt_lt hd
    obtain ⟨hf, h⟩ := chk_spec h
    have hf := Option.isNone_iff_eq_none.1 hf
    obtain ⟨xv, h, hx⟩ := aget_sound h
    obtain ⟨cs, h, hc⟩ := cellsV_sound h
    obtain ⟨hsz, hrep⟩ := hc F w τ _ (hx F τ w cx.n a rfl hr.env)
    unfold Oper.wp
    simp only [execOp, hop]
    have hrun : (Instr.box t (a.eval x)).run B.P w = .ok (.pointer (some ⟨w.heap.size, 0, none⟩)) (w.alloc (.cells (a.eval x).cells t)) := by
      simp [Instr.box, newVar, newRow]
    rw [exec_value hrun, Oper.upon_value, hdst]
    exact hn _ _ _ h (box_new hr hd hf t hsz hrep)
  case h_4 t len parts d hop hdst =>
    obtain ⟨hd, h⟩ := chk_spec h
    have hd := blt_lt hd
    obtain ⟨hf, h⟩ := chk_spec h
    have hf := Option.isNone_iff_eq_none.1 hf
    split at h
    · rename_i e esz by_ hl
      split at h
      · rename_i zs hlz
        obtain ⟨c1, h⟩ := chk_spec h
        obtain ⟨c2, h⟩ := chk_spec h
        obtain ⟨c3, h⟩ := chk_spec h
        obtain ⟨c4, h⟩ := chk_spec h
        obtain ⟨rows, hK, hrl, hps⟩ := partsV_sound h
        obtain ⟨vs, p1, p2, p3, p4⟩ := hps F τ w cx.n a hr.env
        have hz := B.hZ.at_ hlz
        obtain ⟨v, w', q1, q2⟩ := build_new hr hd hf (by rw [hP]; exact tabB_look B.hT hl) (by rw [hP]; exact hz) (Nat.eq_of_beq_eq_true c2) (Nat.le_of_ble_eq_true c3) (blt_lt c4) p1 p2 p3 p4
        unfold Oper.wp
        simp only [execOp, hop]
        rw [hP] at q1
        rw [exec_value q1, Oper.upon_value, hdst]
        exact hn _ _ _ hK q2
      · exact h.elim
    · exact h.elim
  case h_5 t l c d hop hdst =>
    obtain ⟨hd, h⟩ := chk_spec h
    have hd := blt_lt hd
    obtain ⟨hf, h⟩ := chk_spec h
    have hf := Option.isNone_iff_eq_none.1 hf
    split at h
    · rename_i e esz by_ hl
      split at h
      · rename_i zs hlz
        obtain ⟨c1, h⟩ := chk_spec h
        obtain ⟨c2, h⟩ := chk_spec h
        obtain ⟨lv, h, hlv⟩ := aget_sound h
        obtain ⟨cv, h, hcv⟩ := aget_sound h
        split at h
        · rename_i k1 a1 k2 b1 _
          obtain ⟨hab, h0, hbytes, hK⟩ := h
          subst hab
          have hz := B.hZ.at_ hlz
          have hle := hlv F τ w cx.n a rfl hr.env
          have hce := hcv F τ w cx.n a rfl hr.env
          generalize hl1 : a.eval l = lval at hle
          generalize hc1 : a.eval c = cval at hce
          cases hle; cases hce
          obtain ⟨v, w', q1, q2⟩ := make_new hr hd hf (by rw [hP]; exact tabB_look B.hT hl) (by rw [hP]; exact hz) (Nat.eq_of_beq_eq_true c1) (blt_lt c2) (kl := k1) (kc := k2) (n := a1.toNat) hbytes
          unfold Oper.wp
          simp only [execOp, hop, hl1, hc1]
          rw [hP, Int.toNat_of_nonneg h0] at q1
          rw [exec_value q1, Oper.upon_value, hdst]
          exact hn _ _ _ hK q2
        · exact h.elim
      · exact h.elim
    · exact h.elim
  case h_6 as ts d hop hdst =>
    obtain ⟨hd, h⟩ := chk_spec h
    have hd := blt_lt hd
    obtain ⟨hf, h⟩ := chk_spec h
    have hf := Option.isNone_iff_eq_none.1 hf
    split at h
    · rename_i x y t t' has hts
      obtain ⟨c0, hA⟩ := chk_spec h
      have c0 := Nat.eq_of_beq_eq_true c0
      clear h
      split at hA
      · rename_i e esz by_ hl
        split at hA
        · rename_i zs hlz
          obtain ⟨c1, hB⟩ := chk_spec hA
          obtain ⟨c2, hC⟩ := chk_spec hB
          obtain ⟨xv, hD, hx⟩ := aget_sound hC
          obtain ⟨yv, hE, hy⟩ := aget_sound hD
          obtain ⟨m, row, hG, hone, hsrc⟩ := srcV_sound hE
          have hz := B.hZ.at_ hlz
          have has' : as = #[x, y] := by rw [← Array.toArray_toList (xs := as), has]
          have hts' : ts = #[t, t'] := by rw [← Array.toArray_toList (xs := ts), hts]
          subst c0
          subst has'
          subst hts'
          obtain ⟨v', w', s', q1, q2, q3⟩ := appV_sound (ty := o.type) hr hG hd hf (by rw [hP]; exact tabB_look B.hT hl) (by rw [hP]; exact hz) (Nat.eq_of_beq_eq_true c1) (blt_lt c2) (hsrc cx τ F w _ hr.wr (hy F τ w cx.n a rfl hr.env)) hone (hx F τ w cx.n a rfl hr.env)
          unfold Oper.wp
          rw [hP] at q1
          have hrun : (execOp a.eval o).run B.P w = .ok (.value v') w' := by
            simp only [execOp, hop, resolve, Sem.run_bind, Sem.run_pure, Result.andThen_ok, invoke, builtin]
            have e1 : Array.map a.eval #[x, y] = #[a.eval x, a.eval y] := by simp
            rw [e1, q1]
            rfl
          rw [hrun, Oper.upon_value, hdst]
          exact hn _ _ _ q2 q3
        · exact hA.elim
      · exact hA.elim
    · exact h.elim
  case h_7 t x y hop hdst =>
    obtain ⟨xv, h, hx⟩ := aget_sound h
    obtain ⟨yv, h, hy⟩ := aget_sound h
    obtain ⟨cs, h, hc⟩ := cellsV_sound h
    obtain ⟨hsz, hrep⟩ := hc F w τ _ (hy F τ w cx.n a rfl hr.env)
    split at h
    · rename_i id esz i off
      split at h
      · rename_i e esz' n' row ti hl ht
        obtain ⟨h0, h⟩ := chk_spec h
        obtain ⟨h1, h⟩ := chk_spec h
        obtain ⟨h2, h⟩ := chk_spec h
        obtain ⟨h3, h⟩ := chk_spec h
        obtain ⟨h4, hi, hK⟩ := chk_spec h
        have h0 := Nat.eq_of_beq_eq_true h0
        subst h0
        have h1 := Nat.le_of_ble_eq_true h1
        have h2 := Nat.eq_of_beq_eq_true h2
        have hxr := hx F τ w cx.n a rfl hr.env
        generalize hxe : a.eval x = xval at hxr
        cases hxr with
        | rp _ _ _ _ _ b m c hb =>
          obtain ⟨w', hw1, hw2⟩ := hr.writeRow hl hb hi h1 hsz hrep h3 h4
          obtain ⟨fi, hfi, his⟩ := aggSize_info (tabB_look B.hT ht)
          unfold Oper.wp
          have hrun : (execOp a.eval o).run B.P w = .ok .skip w' := by
            rw [hP] at hw1
            simp only [execOp, hop, hxe, Instr.storeAt, Instr.sureAddr, storeVar, Sem.run_bind, Sem.run_pure, Result.andThen_ok, sizeOf_run hfi, his, h2, hsz, ne_eq, not_true_eq_false, if_false]
            simp [hw1]
          rw [hrun, Oper.upon_skip, hdst]
          exact hn _ _ _ hK ⟨τ, F, hw2⟩
      · exact h.elim
    · rename_i id off
      split at h
      · rename_i old ti hl ht
        obtain ⟨h1, h⟩ := chk_spec h
        obtain ⟨h2, h⟩ := chk_spec h
        obtain ⟨h3, h⟩ := chk_spec h
        have h1 := Nat.le_of_ble_eq_true h1
        have h2 := Nat.eq_of_beq_eq_true h2
        have hxr := hx F τ w cx.n a rfl hr.env
        generalize hxe : a.eval x = xval at hxr
        cases hxr with
        | obj _ _ _ b hb =>
          obtain ⟨w', hw1, hw2⟩ := hr.write hl hb h1 hsz hrep h3
          obtain ⟨i, hi, his⟩ := aggSize_info (tabB_look B.hT ht)
          unfold Oper.wp
          have hrun : (execOp a.eval o).run B.P w = .ok .skip w' := by
            rw [hP] at hw1
            simp only [execOp, hop, hxe, Instr.storeAt, Instr.sureAddr, storeVar, Sem.run_bind, Sem.run_pure, Result.andThen_ok, sizeOf_run hi, his, h2, hsz, ne_eq, not_true_eq_false, if_false]
            simp [hw1]
          rw [hrun, Oper.upon_skip, hdst]
          exact hn _ _ _ h ⟨τ, F, hw2⟩
      · exact h.elim
    · exact h.elim
  case h_8 d hdst _ _ _ _ _ _ => exact quiet d hdst h
  case h_9 => exact h.elim

theorem wanted_guard {F : Nat → Prop} {τ : Nat → Option Value} {w : World} {n : Nat} {ops : List Oper} {s : St} {a : Act} {o : Oper} {i : Nat} {b : Bool} {K : Bool → Prop} (ho : o.guard = some (i, b)) (h : guardB ops s i b K) (he : EnvR F τ w n s.env a.tmps) :
    ∃ g, K g ∧ Region.wanted o (yielded ops.toArray a.tmps) = g := by
  unfold guardB at h
  split at h
  · rename_i d hd
    have hy : ∀ v, a.tmps.getD d undef = v → v ≠ undef → yielded ops.toArray a.tmps i = (match v with | .bool b => some b | _ => none) := by
      intro v hv hne
      have hlt : d < a.tmps.size := by
        rcases Nat.lt_or_ge d a.tmps.size with h | h
        · exact h
        · simp [Array.getElem?_eq_none h] at hv
          exact absurd hv.symm hne
      have h2 : a.tmps[d]? = some v := by
        have e : a.tmps[d]? = some a.tmps[d] := Array.getElem?_eq_getElem hlt
        rw [e]
        simp [hlt] at hv
        rw [hv]
      have hd' : (ops.toArray[i]?).bind (·.dst) = some d := by simpa using hd
      unfold yielded
      rw [hd', Option.bind_some, h2]
      cases v <;> rfl
    split at h
    · rename_i x hl
      have hr := (he d _ hl).2
      generalize hv : a.tmps.getD d undef = v at hr
      cases hr
      refine ⟨_, h, ?_⟩
      unfold Region.wanted
      rw [ho]
      simp only [hy _ hv (by simp [undef])]
      cases x <;> cases b <;> rfl
    · rename_i g x hl
      have hr := (he d _ hl).2
      generalize hv : a.tmps.getD d undef = v at hr
      refine ⟨_, h, ?_⟩
      unfold Region.wanted
      rw [ho]
      cases hr with
      | condT _ _ _ hr =>
        cases hr
        simp only [hy _ hv (by simp [undef])]
        cases x <;> cases b <;> rfl
      | condF =>
        have hy2 : yielded ops.toArray a.tmps i = none := by
          have hd' : (ops.toArray[i]?).bind (·.dst) = some d := by simpa using hd
          unfold yielded
          rw [hd', Option.bind_some]
          cases h2 : a.tmps[d]? with
          | none => rfl
          | some u =>
            have : a.tmps.getD d undef = u := by simp [h2]
            rw [hv] at this; subst this; rfl
        simp only [hy2]
        cases x <;> cases b <;> rfl
    · exact h.elim
  · exact h.elim

theorem aopG_sound (B : Tabs) {cx : Cx} (hP : cx.P = B.P) {s : St} {o : Oper} {K : St → Prop} {g : Bool} (h : aopG B cx.n g s o.op o.dst K) {a : Act} {w : World} (hr : Rel cx s a w)
    {next : Act → World → Prop} {Q : Exit → Act → World → Prop} (hn : ∀ s' a' w', K s' → Rel cx s' a' w' → next a' w') :
    (g = true → o.wp cx.P a w next Q) ∧ (g = false → next (a.put o.dst undef) w) := by
  obtain ⟨τ, F, hr⟩ := hr
  rw [hP]
  have quiet : ∀ d, o.dst = some d → chk (Nat.blt d cx.n) (qop B.T g s o.op fun y => K (s.put d (.cond g y))) → (g = true → o.wp B.P a w next Q) ∧ (g = false → next (a.put o.dst undef) w) := by
    intro d hdst h
    obtain ⟨hd, h⟩ := chk_spec h
    have hd := blt_lt hd
    obtain ⟨y, hy, hs⟩ := qop_sound B.hT h
    refine ⟨fun hg => ?_, fun hg => ?_⟩
    · obtain ⟨v, h1, h2⟩ := hs cx τ F w a hg hr
      unfold Oper.wp
      rw [h2 o rfl w (Below.refl _ _), Oper.upon_value, hdst]
      subst hg
      exact hn _ _ _ hy ⟨τ, F, hr.put d _ v (.condT _ _ _ h1) hd⟩
    · subst hg
      rw [hdst]
      exact hn _ _ _ hy ⟨τ, F, hr.put d _ undef (.condF _ _) hd⟩
  unfold aopG at h
  split at h
  case h_1 f as ts d hop hdst =>
    obtain ⟨hd, h⟩ := chk_spec h
    have hd := blt_lt hd
    obtain ⟨ys, h, hl, hs⟩ := agets_sound h
    obtain ⟨hp, y, hc, hK⟩ := chk_spec h
    obtain ⟨hpy, hK⟩ := chk_spec hK
    refine ⟨fun hg => ?_, fun hg => ?_⟩
    · obtain ⟨hfn, hcall⟩ := hc hg
      obtain ⟨l1, l2⟩ := args_rep hl hp (hs F τ w cx.n a hg hr.env)
      unfold Oper.wp
      rw [call_run hfn hop, Oper.upon_enter]
      have := hcall F w (as.map a.eval).toList hr.wr.fz l1 l2
      rw [Array.toArray_toList] at this
      refine this.mono fun e w' ⟨v, F', he, hb, q1, q2, q3, q4⟩ => ?_
      subst he
      show next (a.put o.dst v) w'
      rw [hdst]
      subst hg
      exact hn _ _ _ hK ⟨τ, F', (hr.called hb q1 q2 q3).put d _ v (.condT _ _ _ (q4.pure hpy)) hd⟩
    · subst hg
      rw [hdst]
      exact hn _ _ _ hK ⟨τ, F, hr.put d _ undef (.condF _ _) hd⟩
  case h_2 d hdst _ => exact quiet d hdst h
  case h_3 => exact h.elim

theorem aops_sound (B : Tabs) {cx : Cx} (hP : cx.P = B.P) {ops : List Oper} {Q : Exit → Act → World → Prop} : ∀ (l : List Oper) {s : St} {K : St → Prop}, aops B cx.n ops l s K → ∀ {a : Act} {w : World}, Rel cx s a w →
    (∀ s' a' w', K s' → Rel cx s' a' w' → Q .normal a' w') → wpList cx.P ops.toArray Q l a w
  | [], s, K, h, a, w, hr, hQ => hQ _ _ _ h hr
  | o :: r, s, K, h, a, w, hr, hQ => by
    simp only [wpList]
    unfold aops at h
    split at h
    · rename_i hg
      have hw : Region.wanted o (yielded ops.toArray a.tmps) = true := by unfold Region.wanted; rw [hg]
      rw [if_pos hw]
      exact .inl (aop_sound B hP h hr fun s' a' w' hK hr' => aops_sound B hP r hK hr' hQ)
    · rename_i i b hg
      have hr0 := hr
      obtain ⟨τ, F, hr1⟩ := hr
      obtain ⟨g, hG, hw⟩ := wanted_guard hg h hr1.env
      obtain ⟨h1, h2⟩ := aopG_sound B hP (Q := Q) hG hr0 (next := wpList cx.P ops.toArray Q r) fun s' a' w' hK hr' => aops_sound B hP r hK hr' hQ
      rw [hw]
      cases g with
      | true => rw [if_pos rfl]; exact .inl (h1 rfl)
      | false => rw [if_neg (by simp)]; exact h2 rfl
end Go.Abs

namespace Go.Abs
open Go Go.RowKit
set_option linter.unusedVariables false

/-- One operation of a region that draws its order: it is quiet, or a call with one exact answer. -/
def aopQ (B : Tabs) (n : Nat) (g : Bool) (wrap : AV → AV) (s : St) (op : Op) (d : Option Nat) (K : St → Prop) : Prop :=
  match op, d with
  | .call { callee := .value (.func f), args := as, argTypes := _ }, some d => chk (Nat.blt d n) (agets g s as.toList fun ys => chk (AV.pureL ys) (CallK B.P g f ys fun y => chk (AV.exact y).isSome (K (s.put d (wrap y)))))
  | op, some d => chk (Nat.blt d n) (qop B.T g s op fun y => K (s.put d (wrap y)))
  | _, none => False

def aopsQ (B : Tabs) (n : Nat) (ops : List Oper) : List Oper → St → (St → Prop) → Prop
  | [], s, K => K s
  | o :: r, s, K => match o.guard with
    | none => aopQ B n true (fun y => y) s o.op o.dst fun s' => aopsQ B n ops r s' K
    | some (i, b) => guardB ops s i b fun g => aopQ B n g (fun y => .cond g y) s o.op o.dst fun s' => aopsQ B n ops r s' K

theorem aopQ_sound (B : Tabs) {cx : Cx} (hP : cx.P = B.P) {s : St} {o : Oper} {K : St → Prop} {g : Bool} {wrap : AV → AV} (h : aopQ B cx.n g wrap s o.op o.dst K) (hwrap : g = true → ∀ F w τ y v, Rep F w τ y v → Rep F w τ (wrap y) v)
    (hfalse : g = false → ∀ F w τ y, Rep F w τ (wrap y) undef) {τ F a w} (hr : RelA cx τ F s a w) {next : Act → Prop} (hn : ∀ s' a', K s' → RelA cx τ F s' a' w → next a') :
    (g = true → o.quiet B.P a (fun w' => Below w.heap.size w w') next) ∧ (g = false → next (a.put o.dst undef)) := by
  have quiet : ∀ d, o.dst = some d → chk (Nat.blt d cx.n) (qop B.T g s o.op fun y => K (s.put d (wrap y))) → (g = true → o.quiet B.P a (fun w' => Below w.heap.size w w') next) ∧ (g = false → next (a.put o.dst undef)) := by
    intro d hdst h
    obtain ⟨hd, h⟩ := chk_spec h
    have hd := blt_lt hd
    obtain ⟨y, hy, hs⟩ := qop_sound B.hT h
    refine ⟨fun hg => ?_, fun hg => ?_⟩
    · obtain ⟨v, h1, h2⟩ := hs cx τ F w a hg hr
      refine ⟨v, fun w' hb => ?_, ?_⟩
      · unfold Oper.quietAt
        rw [h2 o rfl w' hb]
        exact ⟨rfl, rfl⟩
      · rw [hdst]; exact hn _ _ hy (hr.put d _ v (hwrap hg _ _ _ _ _ h1) hd)
    · rw [hdst]; exact hn _ _ hy (hr.put d _ undef (hfalse hg _ _ _ _) hd)
  unfold aopQ at h
  split at h
  case h_1 f as ts d hop hdst =>
    obtain ⟨hd, h⟩ := chk_spec h
    have hd := blt_lt hd
    obtain ⟨ys, h, hl, hs⟩ := agets_sound h
    obtain ⟨hp, y, hc, hK⟩ := chk_spec h
    obtain ⟨hpy, hK⟩ := chk_spec hK
    refine ⟨fun hg => ?_, fun hg => ?_⟩
    · obtain ⟨hfn, hcall⟩ := hc hg
      obtain ⟨v, hv⟩ := Option.isSome_iff_exists.1 hpy
      have hex := exact_spec y v hv
      refine ⟨v, fun w' hb => ?_, ?_⟩
      · unfold Oper.quietAt
        rw [call_run hfn hop]
        refine ⟨rfl, ?_⟩
        have hr' := hr.later hb
        obtain ⟨l1, l2⟩ := args_rep hl hp (hs F τ w' cx.n a hg hr'.env)
        have := hcall F w' (as.map a.eval).toList hr'.wr.fz l1 l2
        rw [Array.toArray_toList] at this
        refine this.mono fun e w'' ⟨u, F', he, hb', q1, q2, q3, q4⟩ => ?_
        have := (hex F' w'' (fun _ => none)).2 u q4
        subst this
        exact ⟨he, hb.trans (hb'.mono hb.size)⟩
      · rw [hdst]; exact hn _ _ hK (hr.put d _ v (hwrap hg _ _ _ _ _ (hex F w τ).1) hd)
    · rw [hdst]; exact hn _ _ hK (hr.put d _ undef (hfalse hg _ _ _ _) hd)
  case h_2 d hdst _ => exact quiet d hdst h
  case h_3 => exact h.elim

theorem aopsQ_sound (B : Tabs) {cx : Cx} (hP : cx.P = B.P) {ops : List Oper} {τ F w} {Q : Act → Prop} : ∀ (l : List Oper) {s : St} {K : St → Prop}, aopsQ B cx.n ops l s K → ∀ {a : Act}, RelA cx τ F s a w →
    (∀ s' a', K s' → RelA cx τ F s' a' w → Q a') → wpQuiet B.P ops.toArray (fun w' => Below w.heap.size w w') Q l a
  | [], s, K, h, a, hr, hQ => hQ _ _ h hr
  | o :: r, s, K, h, a, hr, hQ => by
    simp only [wpQuiet]
    unfold aopsQ at h
    split at h
    · rename_i hg
      have hw : Region.wanted o (yielded ops.toArray a.tmps) = true := by unfold Region.wanted; rw [hg]
      rw [if_pos hw]
      exact (aopQ_sound B hP h (fun _ _ _ _ _ _ h => h) (fun h => by cases h) hr fun s' a' hK hr' => aopsQ_sound B hP r hK hr' hQ).1 rfl
    · rename_i i b hg
      obtain ⟨g, hG, hw⟩ := wanted_guard hg h hr.env
      obtain ⟨h1, h2⟩ := aopQ_sound B hP hG (fun hg _ _ _ _ _ h => by subst hg; exact .condT _ _ _ h) (fun hg _ _ _ _ => by subst hg; exact .condF _ _) hr (next := wpQuiet B.P ops.toArray (fun w' => Below w.heap.size w w') Q r) fun s' a' hK hr' => aopsQ_sound B hP r hK hr' hQ
      rw [hw]
      cases g with
      | true => rw [if_pos rfl]; exact h1 rfl
      | false => rw [if_neg (by simp)]; exact h2 rfl

/-! ### The code -/

/-- From every frame and world that is as 's' says, the code comes to an end as 'Q' says. -/
def AWp (B : Tabs) (n : Nat) (c : Code) (s : St) (Q : Exit → St → Prop) : Prop :=
  ∀ cx : Cx, cx.P = B.P → cx.n = n → (∀ b, ¬ cx.X b) → ∀ a w, Rel cx s a w → c.wp B.P (fun e a' w' => ∃ s', Q e s' ∧ Rel cx s' a' w') a w

section
variable {B : Tabs} {n : Nat} {s : St} {Q : Exit → St → Prop}

theorem AWp.mono {c : Code} {Q' : Exit → St → Prop} (h : AWp B n c s Q) (hq : ∀ e s, Q e s → Q' e s) : AWp B n c s Q' :=
  fun cx hP hn hX a w hr => wp_mono (h cx hP hn hX a w hr) fun e a' w' ⟨s', h1, h2⟩ => ⟨s', hq _ _ h1, h2⟩

def Then (K : St → Prop) (Q : Exit → St → Prop) : Exit → St → Prop
  | .normal, s => K s
  | e, s => Q e s

theorem AWp.seq {x y : Code} (h : AWp B n x s (Then (fun s' => AWp B n y s' Q) Q)) : AWp B n (.seq x y) s Q := by
  intro cx hP hn hX a w hr
  refine wp_seq (wp_mono (h cx hP hn hX a w hr) fun e a' w' ⟨s', h1, h2⟩ => ?_)
  cases e with
  | normal => exact h1 cx hP hn hX a' w' h2
  | _ => exact ⟨s', h1, h2⟩

theorem AWp.skip (h : Q .normal s) : AWp B n .skip s Q := fun cx hP hn hX a w hr => wp_skip ⟨s, h, hr⟩
theorem AWp.exit {id : Nat} (h : Q (.exit id) s) : AWp B n (.exit id) s Q := fun cx hP hn hX a w hr => wp_exit ⟨s, h, hr⟩
theorem AWp.ret (h : Q .ret s) : AWp B n .ret s Q := fun cx hP hn hX a w hr => wp_ret ⟨s, h, hr⟩

theorem AWp.cond {c : Operand} {x y : Code} (h : aget true s c fun cv => match cv with
    | .val (.bool b) => (b = true → AWp B n x s Q) ∧ (b = false → AWp B n y s Q)
    | _ => False) : AWp B n (.cond c x y) s Q := by
  intro cx hP hn hX a w hr
  obtain ⟨cv, h, hc⟩ := aget_sound h
  obtain ⟨τ, F, hr1⟩ := hr
  have h1 := hc F τ w cx.n a rfl hr1.env
  split at h
  · rename_i b
    generalize hce : a.eval c = v at h1
    cases h1
    cases b with
    | true => exact wp_cond_true hce (h.1 rfl cx hP hn hX a w ⟨τ, F, hr1⟩)
    | false => exact wp_cond_false hce (h.2 rfl cx hP hn hX a w ⟨τ, F, hr1⟩)
  · exact h.elim

def InBlock (id : Nat) (Q : Exit → St → Prop) : Exit → St → Prop
  | .exit id', s => match Nat.beq id' id with
    | true => Q .normal s
    | false => Q (.exit id') s
  | e, s => Q e s

theorem AWp.block {id : Nat} {c : Code} (h : AWp B n c s (InBlock id Q)) : AWp B n (.block id c) s Q := by
  intro cx hP hn hX a w hr
  refine wp_block (wp_mono (h cx hP hn hX a w hr) fun e a' w' ⟨s', h1, h2⟩ => ?_)
  cases e with
  | exit id' =>
    simp only [Exit.inBlock, InBlock] at h1 ⊢
    split
    · rename_i e; subst e; simp only [Nat.beq_refl] at h1; exact ⟨s', h1, h2⟩
    · rename_i e
      have : Nat.beq id' id = false := by
        cases e' : Nat.beq id' id with
        | false => rfl
        | true => exact absurd (Nat.eq_of_beq_eq_true e') e
      rw [this] at h1
      exact ⟨s', h1, h2⟩
  | _ => exact ⟨s', h1, h2⟩

theorem AWp.region {id : Nat} {l : List Oper} (h : aops B n l l s (fun s' => Unit → Q .normal s')) : AWp B n (.region id l.toArray false) s Q := by
  intro cx hP hn hX a w hr
  subst hn
  rw [← hP]
  exact wp_region_lit (aops_sound B hP l h hr fun s' a' w' hK hr' => ⟨s', hK (), hr'⟩)

theorem AWp.draw {id : Nat} {l : List Oper} (hm : B.P.follows .mixedOrders = true) (hB : Region.lexB .any l.toArray = true) (h : aopsQ B n l l s (fun s' => Unit → Q .normal s')) : AWp B n (.region id l.toArray true) s Q := by
  intro cx hP hn hX a w hr
  subst hn
  obtain ⟨τ, F, hr⟩ := hr
  have hb0 : Below w.heap.size w { w with drawn := w.drawn + 1 } := ⟨rfl, rfl, rfl, Nat.le_refl _, fun _ _ => rfl⟩
  have hr1 := hr.later hb0
  exact wp_region_quiet (C := fun w' => Below w.heap.size w w') hm hB hb0
    (aopsQ_sound B hP l h hr fun s' a' hK hr' w' hw' => ⟨s', hK (), τ, F, hr'.later hw'⟩)

/-- What is known may be forgotten, own objects too, where nothing that stays leads to them. -/
def subEnv (p : Nat → Bool) (e : List (Nat × AV)) : List (Nat × AV) → Prop
  | [] => True
  | (t, x) :: r => look e t = some x ∧ AV.refsB p x = true ∧ subEnv p e r
def HO.refsB (p : Nat → Bool) : HO → Bool
  | .cells cs => AV.refsL p cs
  | .row _ _ _ _ => true
def subHO (y : Option HO) : HO → Prop
  | .cells cs => y = some (.cells cs)
  | .row e esz n f => ∃ n' f', y = some (.row e esz n' f') ∧ n' = n ∧ ∀ i, i < n → f i = f' i
def subHeap (p : Nat → Bool) (e : List (Nat × HO)) : List (Nat × HO) → Prop
  | [] => True
  | (t, x) :: r => subHO (look e t) x ∧ HO.refsB p x = true ∧ subHeap p e r
def St.has (s : St) (id : Nat) : Bool := (look s.heap id).isSome
def Sub (s' s : St) : Prop := subEnv s'.has s.env s'.env ∧ subHeap s'.has s.heap s'.heap

theorem subEnv_at {p : Nat → Bool} {e : List (Nat × AV)} : ∀ {l : List (Nat × AV)}, subEnv p e l → ∀ t x, look l t = some x → look e t = some x ∧ AV.refsB p x = true
  | [], _, t, x, h => by cases h
  | (k, y) :: r, h, t, x, hl => by
    rw [look_cons] at hl
    split at hl
    · rename_i hk; subst hk; injection hl with hl; subst hl; exact ⟨h.1, h.2.1⟩
    · exact subEnv_at h.2.2 t x hl
theorem subHeap_at {p : Nat → Bool} {e : List (Nat × HO)} : ∀ {l : List (Nat × HO)}, subHeap p e l → ∀ t x, look l t = some x → subHO (look e t) x ∧ HO.refsB p x = true
  | [], _, t, x, h => by cases h
  | (k, y) :: r, h, t, x, hl => by
    rw [look_cons] at hl
    split at hl
    · rename_i hk; subst hk; injection hl with hl; subst hl; exact ⟨h.1, h.2.1⟩
    · exact subHeap_at h.2.2 t x hl

theorem RelA.sub {cx τ F s s' a w} (h : RelA cx τ F s a w) (hs : Sub s' s) : Rel cx s' a w := by
  let τ' : Nat → Option Value := fun id => if s'.has id = true then τ id else none
  have hτ : ∀ id u, τ' id = some u → s'.has id = true ∧ τ id = some u := fun id u hu => by
    have hu' : (if s'.has id = true then τ id else none) = some u := hu
    split at hu'
    · rename_i e; exact ⟨e, hu'⟩
    · cases hu'
  have hτ2 : ∀ id, s'.has id = true → τ' id = τ id := fun id h => if_pos h
  refine ⟨τ', F, ⟨h.wr.keeps, h.wr.fz, fun k id v hk hv => h.wr.fne k id v hk (hτ id v hv).2, h.wr.fsub, h.wr.fsup, fun id v b hv => h.wr.tlt id v b (hτ id v hv).2, fun id id' v v' b hv hv' => h.wr.inj id id' v v' b (hτ id v hv).2 (hτ id' v' hv').2, fun id o hl => ?_, fun id v hv => ?_⟩, h.size, h.defers, fun t x ht => ?_⟩
  · obtain ⟨hl', hrefs⟩ := subHeap_at hs.2 id o hl
    cases o with
    | cells cs =>
      obtain ⟨v, h1, h2⟩ := h.wr.obj id _ hl'
      refine ⟨v, by rw [hτ2 id (by simp [St.has, hl])]; exact h1, ?_⟩
      obtain ⟨b, c, ty, rfl, h3, h4, h5⟩ := h2
      exact ⟨b, c, ty, rfl, h3, h4, fun j x hx => (h5 j x hx).refs hτ2 (refsL_at hrefs j x hx)⟩
    | row e esz n row =>
      obtain ⟨n', f', hl', rfl, hff⟩ := hl'
      obtain ⟨v, h1, h2⟩ := h.wr.obj id _ hl'
      refine ⟨v, by rw [hτ2 id (by simp [St.has, hl])]; exact h1, ?_⟩
      obtain ⟨xs, q1, q2, q3⟩ := h2
      exact ⟨xs, q1, fun i hi => by rw [hff i hi]; exact q2 i hi, fun i j x hi hx => q3 i j x hi (by rw [← hff i hi]; exact hx)⟩
  · have := (hτ id v hv).1
    exact Option.isSome_iff_exists.1 this
  · obtain ⟨h1, h2⟩ := subEnv_at hs.1 t x ht
    exact ⟨(h.env t x h1).1, (h.env t x h1).2.refs hτ2 h2⟩

theorem AWp.weaken {c : Code} {s' : St} (hs : Sub s' s) (h : AWp B n c s' Q) : AWp B n c s Q :=
  fun cx hP hn hX a w ⟨_, _, hr⟩ => h cx hP hn hX a w (hr.sub hs)

theorem least {p : Nat → Prop} (h : ∃ k, p k) : ∃ k, p k ∧ ∀ m, p m → k ≤ m := by
  obtain ⟨k, hk⟩ := h
  induction k using Nat.strongRecOn with
  | _ k ih =>
    by_cases e : ∃ m, m < k ∧ p m
    · obtain ⟨m, h1, h2⟩ := e; exact ih m h1 h2
    · exact ⟨k, hk, fun m hm => Nat.le_of_not_lt fun hlt => e ⟨m, hlt, hm⟩⟩

open Classical in
/-- The least number that a state of the family has that fits. -/
noncomputable def leastMu {ι : Type} (cx : Cx) (I : ι → St) (μ : ι → Nat) (a : Act) (w : World) : Nat :=
  if h : ∃ k, ∃ i, Rel cx (I i) a w ∧ μ i = k then (least h).choose else 0

theorem leastMu_spec {ι : Type} {cx : Cx} {I : ι → St} {μ : ι → Nat} {a : Act} {w : World} (h : ∃ i, Rel cx (I i) a w) : (∃ i, Rel cx (I i) a w ∧ μ i = leastMu cx I μ a w) ∧ ∀ i, Rel cx (I i) a w → leastMu cx I μ a w ≤ μ i := by
  have h' : ∃ k, ∃ i, Rel cx (I i) a w ∧ μ i = k := let ⟨i, hi⟩ := h; ⟨_, i, hi, rfl⟩
  unfold leastMu
  rw [dif_pos h']
  have := (least h').choose_spec
  exact ⟨this.1, fun i hi => this.2 _ ⟨i, hi, rfl⟩⟩

/-- A loop, by a family of states and a number that every round lowers. -/
theorem AWp.loop {ι : Type} {c : Code} (I : ι → St) (p : ι → Prop) (μ : ι → Nat) (i : ι) (hp : p i) (hs : Sub (I i) s)
    (round : ∀ i, p i → AWp B n c (I i) (Then (fun s' => ∃ i', p i' ∧ Sub (I i') s' ∧ μ i' < μ i) Q)) : AWp B n (.loop c) s Q := by
  intro cx hP hn hX a w ⟨_, _, hr⟩
  let I' : { i // p i } → St := fun i => I i.1
  let μ' : { i // p i } → Nat := fun i => μ i.1
  refine wp_loop (fun a w => ∃ i, Rel cx (I' i) a w) (fun a w => leastMu cx I' μ' a w) ⟨⟨i, hp⟩, hr.sub hs⟩ fun a w hI => ?_
  obtain ⟨⟨i, hi, hmu⟩, _⟩ := leastMu_spec (μ := μ') hI
  refine wp_mono (round i.1 i.2 cx hP hn hX a w hi) fun e a' w' ⟨s', h1, h2⟩ => ?_
  cases e with
  | normal =>
    obtain ⟨i', hp', hs', hlt⟩ := h1
    obtain ⟨_, _, h2⟩ := h2
    have h3 : Rel cx (I' ⟨i', hp'⟩) a' w' := h2.sub hs'
    refine ⟨⟨⟨i', hp'⟩, h3⟩, ?_⟩
    have h4 := (leastMu_spec (μ := μ') ⟨⟨i', hp'⟩, h3⟩).2 ⟨i', hp'⟩ h3
    have h5 : μ' i = μ i.1 := rfl
    have h6 : μ' ⟨i', hp'⟩ = μ i' := rfl
    omega
  | _ => exact ⟨s', h1, h2⟩
end

/-- The end of a round. -/
theorem round_end {ι : Type} {I : ι → St} {p : ι → Prop} {μ : ι → Nat} {i : ι} {s : St} {Q : Exit → St → Prop} (i' : ι) (hp : p i') (hs : Sub (I i') s) (hμ : μ i' < μ i) :
    Then (fun s' => ∃ i', p i' ∧ Sub (I i') s' ∧ μ i' < μ i) Q .normal s := ⟨i', hp, hs, hμ⟩

theorem CallK.intro {P : Program} {g : Bool} {f : FuncId} {avs : List AV} {K : AV → Prop} {y : AV} (h : g = true → ACallIs P f avs y) (hk : K y) : CallK P g f avs K := ⟨y, h, hk⟩
theorem AWp.out {B : Tabs} {n : Nat} {c : Code} {s : St} {Q : Exit → St → Prop} (h : AWp B n c s Q) : ∀ cx : Cx, cx.P = B.P → cx.n = n → (∀ b, ¬ cx.X b) → ∀ a w, Rel cx s a w → c.wp B.P (fun e a' w' => ∃ s', Q e s' ∧ Rel cx s' a' w') a w := h
end Go.Abs

namespace Go.Abs
open Go Go.RowKit
set_option linter.unusedVariables false

def AV.frz (id esz : Nat) (f : Nat → List AV) (x : AV) : AV :=
  match x with
  | .sl k m => match Nat.beq k id with
    | true => .ro esz m f
    | false => .sl k m
  | x => x.keep fun k => !Nat.beq k id
/-- An own row that is written no more is from now on as a slice of old. -/
def St.frz (s : St) (id esz : Nat) (f : Nat → List AV) : St :=
  { env := s.env.map fun x => (x.1, x.2.frz id esz f), heap := (s.heap.filter fun x => !Nat.beq x.1 id).map fun x => (x.1, x.2.keep fun k => !Nat.beq k id) }

theorem RelA.freeze {cx τ F s a w} (h : RelA cx τ F s a w) {id e esz n : Nat} {f f' : Nat → List AV} (hl : look s.heap id = some (.row e esz n f)) (hf : ∀ i, i < n → f' i = f i) (hX : ∀ b, ¬ cx.X b) : Rel cx (s.frz id esz f') a w := by
  obtain ⟨u, hu, xs, hown, hrl, hrr⟩ := h.wr.obj id _ hl
  have hdrop := h.drop id
  let F' : Nat → Prop := fun k => F k ∨ hblk u = some k
  have hFF : ∀ k, F k → F' k := fun k hk => .inl hk
  have hwo : ∀ i v, without τ id i = some v → i ≠ id ∧ τ i = some v := fun i v hv => by
    unfold without at hv
    split at hv
    · cases hv
    · rename_i e; exact ⟨e, hv⟩
  have h' : RelA cx (without τ id) F' (s.drop id) a w := by
    refine hdrop.more hFF (fun k hk => ?_) (fun k i v hk hv e => ?_) (fun k hk => ?_)
    · rcases hk with hk | hk
      · exact h.wr.fz k hk
      · exact (h.wr.tlt id u k hu hk).2
    · rcases hk with hk | hk
      · exact h.wr.fne k i v hk (hwo i v hv).2 e
      · exact (hwo i v hv).1 (h.wr.inj i id v u k (hwo i v hv).2 hu e hk)
    · rcases hk with hk | hk
      · exact h.wr.fsub k hk
      · rcases (h.wr.tlt id u k hu hk).1 with h1 | h1
        · exact .inr h1
        · exact absurd h1 (hX k)
  refine ⟨without τ id, F', ⟨h'.wr.keeps, h'.wr.fz, h'.wr.fne, h'.wr.fsub, h'.wr.fsup, h'.wr.tlt, h'.wr.inj, h'.wr.obj, h'.wr.dom⟩, h'.size, h'.defers, fun t x ht => ?_⟩
  simp only [St.frz] at ht
  rw [look_map (fun x : AV => x.frz id esz f')] at ht
  cases hx : look s.env t with
  | none => rw [hx] at ht; cases ht
  | some y =>
    rw [hx] at ht; injection ht with ht
    have hd : look (s.drop id).env t = some (y.keep fun k => !Nat.beq k id) := by
      simp only [St.drop]; rw [look_map (fun x : AV => x.keep fun k => !Nat.beq k id), hx]; rfl
    obtain ⟨g1, g2⟩ := h'.env t _ hd
    refine ⟨g1, ?_⟩
    subst ht
    cases y with
    | sl k m =>
      simp only [AV.frz]
      cases hk : Nat.beq k id with
      | false =>
        have e : (AV.sl k m).keep (fun k => !Nat.beq k id) = .sl k m := by simp [AV.keep, AV.refsB, hk]
        rw [e] at g2; exact g2
      | true =>
        have := Nat.eq_of_beq_eq_true hk
        subst this
        have hr := (h.env t _ hx).2
        generalize a.tmps.getD t undef = v at hr
        cases hr with
        | sl _ _ _ A n' c hτ hn hc hA =>
          rw [hτ] at hu; injection hu with hu; subst hu
          have hnn := own_form hown
          subst hnn
          refine .ro _ _ _ _ _ _ (fun i j => xs.getD (i * esz + j) undef) (by omega) ?_ (fun hm => ?_) (fun i hi => by rw [hf i (by omega)]; exact hrl i (by omega)) (fun i j x hi hx => (hrr i j x (by omega) (by rw [← hf i (by omega)]; exact hx)).mono hFF (fun _ _ => rfl) (fun _ _ h => by cases h))
          · rcases hown.2 with ⟨h', h0⟩ | ⟨g, cap, cur, hv, _, hg, hnc, hcm, hcs, htk⟩
            · simp only [Value.slice.injEq] at h'; omega
            · simp only [Value.slice.injEq] at hv; omega
          · rcases hown.2 with ⟨h', h0⟩ | ⟨g, cap, cur, hv, _, hg, hnc, hcm, hcs, htk⟩
            · omega
            · simp only [Value.slice.injEq] at hv
              obtain ⟨rfl, _, rfl⟩ := hv
              refine ⟨g, 0, rfl, .inr rfl, fun i j hi hj => ?_⟩
              have hlt : i * esz + j < n' * esz := by
                have : (i + 1) * esz ≤ n' * esz := Nat.mul_le_mul_right _ (by omega)
                rw [Nat.add_mul, Nat.one_mul] at this; omega
              rw [cell_of_row _ _ _ _ _ _ hg]
              have hx : cur[0 + i * esz + j]? = xs[i * esz + j]? := by
                rw [← htk, List.getElem?_take, if_pos hlt]; simp
              rw [hx]
              have : i * esz + j < xs.length := by rw [hown.1]; exact hlt
              simp [List.getElem?_eq_getElem this]
    | _ => exact g2

/-! A new name for an own object. -/
mutual
def AV.ren (i j : Nat) : AV → AV
  | .obj k o => .obj (bif Nat.beq k i then j else k) o
  | .sl k m => .sl (bif Nat.beq k i then j else k) m
  | .rp k e r o => .rp (bif Nat.beq k i then j else k) e r o
  | .cond g x => .cond g (AV.ren i j x)
  | .agg cs => .agg (AV.renL i j cs)
  | .tup cs => .tup (AV.renL i j cs)
  | .val v => .val v
  | .any => .any
  | .ro a b c => .ro a b c
  | .ptr cs => .ptr cs
def AV.renL (i j : Nat) : List AV → List AV
  | [] => []
  | x :: r => AV.ren i j x :: AV.renL i j r
end
theorem renL_map (i j : Nat) : ∀ cs, AV.renL i j cs = cs.map (AV.ren i j)
  | [] => rfl
  | x :: r => by simp [AV.renL, renL_map i j r]

def renT (τ : Nat → Option Value) (i j : Nat) : Nat → Option Value := fun k => if k = j then τ i else if k = i then none else τ k

theorem Rep.ren {F : Nat → Prop} {w : World} {τ : Nat → Option Value} {i j : Nat} (hj : τ j = none) (hij : i ≠ j) {x : AV} {v : Value} (h : Rep F w τ x v) : Rep F w (renT τ i j) (AV.ren i j x) v := by
  have key : ∀ k u, τ k = some u → renT τ i j (bif Nat.beq k i then j else k) = some u := by
    intro k u hk
    unfold renT
    cases e : Nat.beq k i with
    | true => have := Nat.eq_of_beq_eq_true e; subst this; simpa using hk
    | false =>
      have h1 : k ≠ i := by rintro rfl; simp at e
      have h2 : k ≠ j := by rintro rfl; rw [hj] at hk; cases hk
      simp [h1, h2, hk]
  have gen : ∀ σ y u, Rep F w σ y u → σ = τ → Rep F w (renT τ i j) (AV.ren i j y) u := by
    intro σ y u hr
    induction hr with
    | val σ v => intro _; exact .val _ v
    | any σ v => intro _; exact .any _ v
    | condT σ x v _ ih => intro e; exact .condT _ _ _ (ih e)
    | condF σ x => intro _; exact .condF _ _
    | agg σ cs vs hl _ ih =>
      intro e
      simp only [AV.ren, renL_map]
      refine .agg _ _ _ (by simpa using hl) fun j' c hc => ?_
      rw [List.getElem?_map] at hc
      cases hc' : cs[j']? with
      | none => rw [hc'] at hc; cases hc
      | some z => rw [hc'] at hc; injection hc with hc; subst hc; exact ih j' z hc' e
    | tup σ cs vs hl _ ih =>
      intro e
      simp only [AV.ren, renL_map]
      refine .tup _ _ _ (by simpa using hl) fun j' c hc => ?_
      rw [List.getElem?_map] at hc
      cases hc' : cs[j']? with
      | none => rw [hc'] at hc; cases hc
      | some z => rw [hc'] at hc; injection hc with hc; subst hc; exact ih j' z hc' e
    | ro σ sz n row A c f h1 h2 h3 h4 h5 _ => intro _; exact .ro _ _ _ _ _ _ f h1 h2 h3 h4 h5
    | ptr σ cs b o f h1 h2 h3 _ => intro _; exact .ptr _ _ _ _ f h1 h2 h3
    | obj σ id off b hb => intro e; subst e; exact .obj _ _ _ b (key id _ hb)
    | sl σ id n A m c hb hn hm hA => intro e; subst e; exact .sl _ _ _ A m c (key id _ hb) hn hm hA
    | rp σ id esz r off b m c hb => intro e; subst e; exact .rp _ _ _ _ _ b m c (key id _ hb)
  exact gen τ x v h rfl

def HO.ren (i j : Nat) (o : HO) : HO :=
  match o with
  | .cells cs => .cells (cs.map (AV.ren i j))
  | .row e esz n f => .row e esz n f
def St.ren (s : St) (i j : Nat) : St :=
  { env := s.env.map fun x => (x.1, AV.ren i j x.2), heap := s.heap.map fun x => (bif Nat.beq x.1 i then j else x.1, x.2.ren i j) }

theorem look_ren {α β : Type} (f : α → β) {i j : Nat} (hij : i ≠ j) : ∀ (l : List (Nat × α)), look l j = none → ∀ k, look (l.map fun x => (bif Nat.beq x.1 i then j else x.1, f x.2)) k = if k = j then (look l i).map f else if k = i then none else (look l k).map f
  | [], _, k => by simp [look]
  | (q, v) :: r, hj, k => by
    rw [look_cons] at hj
    have hq : j ≠ q := by rintro rfl; simp at hj
    rw [if_neg hq] at hj
    simp only [List.map_cons, look_cons, look_ren f hij r hj k]
    by_cases hqi : q = i
    · subst hqi
      simp only [Nat.beq_refl, cond_true]
      by_cases hk : k = j
      · simp [hk]
      · simp only [hk, if_false]
        by_cases hk2 : k = q
        · simp [hk2]
        · simp [hk2]
    · have e : Nat.beq q i = false := by
        cases e : Nat.beq q i with
        | false => rfl
        | true => exact absurd (Nat.eq_of_beq_eq_true e) hqi
      simp only [e, cond_false]
      by_cases hk : k = q
      · subst hk; simp [hqi, Ne.symm hq]
      · simp only [hk, if_false]
        by_cases hk2 : k = j
        · simp only [hk2, if_true]; rw [if_neg (fun h => hqi h.symm)]
        · simp [hk2]

theorem RelA.ren {cx τ F s a w} (h : RelA cx τ F s a w) {i j : Nat} (hij : i ≠ j) (hf : look s.heap j = none) : RelA cx (renT τ i j) F (s.ren i j) a w := by
  have hj : τ j = none := by
    cases e : τ j with
    | none => rfl
    | some v => obtain ⟨o, ho⟩ := h.wr.dom j v e; rw [hf] at ho; cases ho
  have hback : ∀ k v, renT τ i j k = some v → ∃ k', τ k' = some v ∧ (k' = if k = j then i else k) := fun k v hv => by
    unfold renT at hv
    split at hv
    · rename_i e; exact ⟨i, hv, by simp [e]⟩
    · split at hv
      · cases hv
      · rename_i e _; exact ⟨k, hv, by simp [e]⟩
  have hni : ∀ k v, renT τ i j k = some v → k ≠ i := fun k v hv e => by
    subst e; unfold renT at hv; rw [if_neg hij, if_pos rfl] at hv; cases hv
  refine ⟨⟨h.wr.keeps, h.wr.fz, fun k id v hk hv => let ⟨k', h1, _⟩ := hback id v hv; h.wr.fne k k' v hk h1, h.wr.fsub, h.wr.fsup, fun id v b hv => let ⟨k', h1, _⟩ := hback id v hv; h.wr.tlt k' v b h1, fun id id' v v' b hv hv' hb hb' => ?_, fun id o hl => ?_, fun id v hv => ?_⟩, h.size, h.defers, fun t x ht => ?_⟩
  · obtain ⟨k1, p1, p2⟩ := hback id v hv
    obtain ⟨k2, p3, p4⟩ := hback id' v' hv'
    have := h.wr.inj k1 k2 v v' b p1 p3 hb hb'
    have n1 := hni id v hv
    have n2 := hni id' v' hv'
    rw [p2, p4] at this
    split at this <;> split at this <;> omega
  · simp only [St.ren] at hl
    rw [look_ren (fun o : HO => o.ren i j) hij _ hf] at hl
    have fin : ∀ k o', look s.heap k = some o' → renT τ i j id = τ k → HO.ren i j o' = o → ∃ v, renT τ i j id = some v ∧ HOk F w (renT τ i j) o v := by
      intro k o' ho' he hoo
      obtain ⟨v, q1, q2⟩ := h.wr.obj k o' ho'
      refine ⟨v, by rw [he]; exact q1, ?_⟩
      subst hoo
      cases o' with
      | cells cs =>
        obtain ⟨b, c, ty, rfl, r1, r2, r3⟩ := q2
        refine ⟨b, c, ty, rfl, r1, by simpa using r2, fun j' x hx => ?_⟩
        rw [List.getElem?_map] at hx
        cases hc : cs[j']? with
        | none => rw [hc] at hx; cases hx
        | some y => rw [hc] at hx; injection hx with hx; subst hx; exact (r3 j' y hc).ren hj hij
      | row e esz n f => exact q2
    split at hl
    · rename_i e
      cases ho : look s.heap i with
      | none => rw [ho] at hl; cases hl
      | some o' => rw [ho] at hl; injection hl with hl; exact fin i o' ho (by unfold renT; rw [if_pos e]) hl
    · split at hl
      · cases hl
      · rename_i e1 e2
        cases ho : look s.heap id with
        | none => rw [ho] at hl; cases hl
        | some o' => rw [ho] at hl; injection hl with hl; exact fin id o' ho (by unfold renT; rw [if_neg e1, if_neg e2]) hl
  · obtain ⟨k', p1, p2⟩ := hback id v hv
    obtain ⟨o, ho⟩ := h.wr.dom k' v p1
    simp only [St.ren]
    rw [look_ren (fun o : HO => o.ren i j) hij _ hf]
    have n1 := hni id v hv
    split
    · rename_i e; rw [if_pos e] at p2; subst p2; rw [ho]; exact ⟨_, rfl⟩
    · rename_i e; rw [if_neg e] at p2; subst p2; rw [ho]; exact ⟨_, by first | rfl | (rw [if_neg n1]; rfl)⟩
  · simp only [St.ren] at ht
    rw [look_map (fun x : AV => AV.ren i j x)] at ht
    cases hx : look s.env t with
    | none => rw [hx] at ht; cases ht
    | some y => rw [hx] at ht; injection ht with ht; subst ht; exact ⟨(h.env t y hx).1, (h.env t y hx).2.ren hj hij⟩

section
variable {B : Tabs} {n : Nat} {s : St} {Q : Exit → St → Prop} {c : Code}
theorem AWp.rename (i j : Nat) (hij : Nat.beq i j = false) (hf : look s.heap j = none) (h : AWp B n c (s.ren i j) Q) : AWp B n c s Q :=
  fun cx hP hn hX a w ⟨_, _, hr⟩ => h cx hP hn hX a w ⟨_, _, hr.ren (by rintro rfl; simp at hij) hf⟩

theorem AWp.freeze (id : Nat) {e esz m : Nat} {f : Nat → List AV} (f' : Nat → List AV) (hl : look s.heap id = some (.row e esz m f)) (hf : ∀ i, i < m → f' i = f i) (h : AWp B n c (s.frz id esz f') Q) : AWp B n c s Q :=
  fun cx hP hn hX a w ⟨_, _, hr⟩ => h cx hP hn hX a w (hr.freeze hl hf hX)

/-- A nil slice in a slot is an own row of no elements. -/
theorem AWp.adopt (t d e esz : Nat) (hl : look s.env t = some (.val (.slice none 0 0))) (hf : look s.heap d = none) (h : AWp B n c { env := (t, .sl d 0) :: s.env, heap := (d, .row e esz 0 fun _ => []) :: s.heap } Q) : AWp B n c s Q := by
  intro cx hP hn hX a w ⟨τ, F, hr⟩
  refine h cx hP hn hX a w ?_
  have hv : a.tmps.getD t undef = .slice none 0 0 := by
    have := (hr.env t _ hl).2
    generalize a.tmps.getD t undef = v at this
    cases this; rfl
  have htn := (hr.env t _ hl).1
  have hown : w.ownsRow 0 e esz (.slice none 0 0) 0 [] := ⟨by simp, .inl ⟨rfl, rfl⟩⟩
  have key := hr.add (d := d) (o := .row e esz 0 fun _ => []) (x := .sl d 0) (v := .slice none 0 0) (u := .slice none 0 0)
  -- the slot keeps its value: state it by hand
  have hnone : τ d = none := by
    cases e : τ d with
    | none => rfl
    | some v' => obtain ⟨o', ho'⟩ := hr.wr.dom d v' e; rw [hf] at ho'; cases ho'
  let τ' : Nat → Option Value := fun id => if id = d then some (.slice none 0 0) else τ id
  have hτ : ∀ id u, τ id = some u → τ' id = some u := fun id u hu => by
    show (if id = d then some (Value.slice none 0 0) else τ id) = some u
    rw [if_neg (by rintro rfl; rw [hnone] at hu; cases hu)]; exact hu
  have hτd : τ' d = some (.slice none 0 0) := if_pos rfl
  have hinv : ∀ id u, τ' id = some u → (id = d ∧ u = .slice none 0 0) ∨ (id ≠ d ∧ τ id = some u) := fun id u hu => by
    have hu' : (if id = d then some (Value.slice none 0 0) else τ id) = some u := hu
    split at hu'
    · rename_i e; injection hu' with hu'; exact .inl ⟨e, hu'.symm⟩
    · rename_i e; exact .inr ⟨e, hu'⟩
  refine ⟨τ', F, ⟨hr.wr.keeps, hr.wr.fz, fun k id u hFk hu => ?_, hr.wr.fsub, hr.wr.fsup, fun id u b hu hbk => ?_, fun id id' u u' b hu hu' hb1 hb2 => ?_, fun id o' hl => ?_, fun id u hu => ?_⟩, hr.size, hr.defers, fun t' y ht => ?_⟩
  · rcases hinv id u hu with ⟨_, rfl⟩ | ⟨_, hu⟩
    · simp [hblk]
    · exact hr.wr.fne k id u hFk hu
  · rcases hinv id u hu with ⟨_, rfl⟩ | ⟨_, hu2⟩
    · simp [hblk] at hbk
    · exact hr.wr.tlt id u b hu2 hbk
  · rcases hinv id u hu with ⟨_, e2⟩ | ⟨_, k1⟩ <;> rcases hinv id' u' hu' with ⟨_, e4⟩ | ⟨_, k2⟩
    · subst e2; simp [hblk] at hb1
    · subst e2; simp [hblk] at hb1
    · subst e4; simp [hblk] at hb2
    · exact hr.wr.inj id id' u u' b k1 k2 hb1 hb2
  · rw [look_cons] at hl
    split at hl
    · rename_i e0; subst e0; injection hl with hl; subst hl
      exact ⟨_, hτd, [], hown, fun i hi => absurd hi (by omega), fun i j x hi => absurd hi (by omega)⟩
    · obtain ⟨u, h1, h2⟩ := hr.wr.obj id o' hl
      exact ⟨u, hτ id u h1, h2.mono (fun _ h => h) (fun _ _ => rfl) hτ fun _ _ => rfl⟩
  · rw [look_cons]
    rcases hinv id u hu with ⟨rfl, _⟩ | ⟨hne, hu⟩
    · exact ⟨_, if_pos rfl⟩
    · obtain ⟨o', ho'⟩ := hr.wr.dom id u hu; exact ⟨o', by rw [if_neg hne]; exact ho'⟩
  · rw [look_cons] at ht
    split at ht
    · rename_i e0; subst e0; injection ht with ht; subst ht
      exact ⟨htn, by rw [hv]; exact own_sl hown hτd⟩
    · obtain ⟨h1, h2⟩ := hr.env t' y ht
      exact ⟨h1, h2.mono (fun _ h => h) (fun _ _ => rfl) hτ⟩
end
end Go.Abs

namespace Go.Abs
open Go Go.RowKit
set_option linter.unusedVariables false

def enum : Nat → List AV → List (Nat × AV)
  | _, [] => []
  | k, x :: r => (k, x) :: enum (k + 1) r

theorem look_enum : ∀ (xs : List AV) (k t : Nat) (x : AV), look (enum k xs) t = some x → k ≤ t ∧ xs[t - k]? = some x
  | [], k, t, x, h => by cases h
  | y :: r, k, t, x, h => by
    simp only [enum] at h
    rw [look_cons] at h
    split at h
    · rename_i e; subst e; injection h with h; subst h; exact ⟨Nat.le_refl _, by simp⟩
    · rename_i e
      obtain ⟨h1, h2⟩ := look_enum r (k + 1) t x h
      refine ⟨by omega, ?_⟩
      rw [show t - k = (t - (k + 1)) + 1 by omega, List.getElem?_cons_succ]
      exact h2

/-- One result: a slot, or a variable. -/
def res1 (T : List (Nat × TI)) (s : St) (rv : ResultVar) (K : AV → Prop) : Prop :=
  match rv with
  | .tmp t => (match look s.env t with | some x => uncond true x K | none => False)
  | .cell t ty => (match look s.env t with | some x => loadv T true s ty x K | none => False)

def resAll (T : List (Nat × TI)) (s : St) : List ResultVar → (List AV → Prop) → Prop
  | [], K => K []
  | rv :: r, K => res1 T s rv fun x => resAll T s r fun xs => K (x :: xs)

def tupOf (xs : List AV) : AV := match xs with | [x] => x | xs => .tup xs

/-- The frame has come to its end and hands back 'r'. -/
def Ends (B : Tabs) (rvs : List ResultVar) (r : AV) : Exit → St → Prop := fun e s => (e = .ret ∨ e = .normal) ∧ AV.pureB r = true ∧ resAll B.T s rvs fun xs => Unit → tupOf xs = r

def resF (tmps : Array Value) : ResultVar → Sem Value
  | .tmp t => pure (tmps.getD t undef)
  | .cell a t => do loadVar t (← asAddr (tmps.getD a undef))

theorem loadv_addr {T : List (Nat × TI)} {g : Bool} {s : St} {t : Nat} {x : AV} {K : AV → Prop} (h : loadv T g s t x K) (hg : g = true) : ∀ cx τ F w u, RelW cx τ F s w → Rep F w τ x u → ∃ a, u = .pointer (some a) := by
  intro cx τ F w u hw hr
  obtain ⟨cs, _, hk⟩ := cellsAt_sound h
  obtain ⟨b, o, e, _⟩ := hk cx τ F w u hg hw hr
  exact ⟨_, e⟩

theorem res1_sound {B : Tabs} {s : St} {rv : ResultVar} {K : AV → Prop} (h : res1 B.T s rv K) : ∃ x, K x ∧ ∀ cx τ F a w, RelA cx τ F s a w → ∃ v, Rep F w τ x v ∧ (resF a.tmps rv).run B.P w = .ok v w := by
  cases rv with
  | tmp t =>
    simp only [res1] at h
    cases hl : look s.env t with
    | none => rw [hl] at h; exact h.elim
    | some x =>
      rw [hl] at h
      obtain ⟨y, hy, hs⟩ := uncond_sound h
      exact ⟨y, hy, fun cx τ F a w hr => ⟨_, hs F τ w _ rfl (hr.env t x hl).2, rfl⟩⟩
  | cell t ty =>
    simp only [res1] at h
    cases hl : look s.env t with
    | none => rw [hl] at h; exact h.elim
    | some x =>
      rw [hl] at h
      have h' : loadv B.T true s ty x K := h
      obtain ⟨y, hy, hs⟩ := loadv_sound B.hT h'
      refine ⟨y, hy, fun cx τ F a w hr => ?_⟩
      obtain ⟨v, h1, h2⟩ := hs cx τ F w _ rfl hr.wr (hr.env t x hl).2
      refine ⟨v, h1, ?_⟩
      have h3 := h2 w (Below.refl _ _)
      obtain ⟨ad, e⟩ := loadv_addr h' rfl cx τ F w _ hr.wr (hr.env t x hl).2
      show (do loadVar ty (← asAddr (a.tmps.getD t undef)) : Sem Value).run B.P w = .ok v w
      rw [e] at h3 ⊢
      simpa [Instr.loadAt, Instr.sureAddr, asAddr] using h3

theorem resAll_sound {B : Tabs} {s : St} : ∀ (rvs : List ResultVar) {K : List AV → Prop}, resAll B.T s rvs K → ∃ xs, K xs ∧ xs.length = rvs.length ∧ ∀ cx τ F a w, RelA cx τ F s a w → ∃ vs : List Value, vs.length = xs.length ∧ (∀ (j : Nat) (x : AV), xs[j]? = some x → Rep F w τ x (vs.getD j undef)) ∧
    (rvs.mapM (resF a.tmps)).run B.P w = .ok vs w
  | [], K, h => ⟨[], h, rfl, fun cx τ F a w hr => ⟨[], rfl, fun j x hx => by simp at hx, rfl⟩⟩
  | rv :: r, K, h => by
    obtain ⟨x, h, hx⟩ := res1_sound h
    obtain ⟨xs, hK, hl, hs⟩ := resAll_sound r h
    refine ⟨x :: xs, hK, by simp [hl], fun cx τ F a w hr => ?_⟩
    obtain ⟨v, h1, h2⟩ := hx cx τ F a w hr
    obtain ⟨vs, h3, h4, h5⟩ := hs cx τ F a w hr
    refine ⟨v :: vs, by simp [h3], fun j y hy => ?_, ?_⟩
    · cases j with
      | zero => simp at hy; subst hy; exact h1
      | succ j => simpa using h4 j y (by simpa using hy)
    · rw [List.mapM_cons]
      simp only [Sem.run_bind]
      rw [h2]
      simp only [Result.andThen_ok]
      rw [h5]
      rfl

/-- Some value is as 'x' says. -/
def Real (x : AV) : Prop := ∃ F w τ v, Rep F w τ x v
theorem Real.len {sz n : Nat} {row : Nat → List AV} (h : Real (.ro sz n row)) : n ≤ maxLen := by
  obtain ⟨F, w, τ, v, h⟩ := h
  cases h with
  | ro _ _ _ _ A c f h1 h2 => exact Nat.le_trans h1 h2
theorem Real.row {sz n : Nat} {row : Nat → List AV} (h : Real (.ro sz n row)) {i j : Nat} {x : AV} (hi : i < n) (hx : (row i)[j]? = some x) : Real x := by
  obtain ⟨F, w, τ, v, h⟩ := h
  cases h with
  | ro _ _ _ _ A c f h1 h2 h3 h4 h5 => exact ⟨F, w, _, _, h5 i j x hi hx⟩
theorem Real.agg {cs : List AV} (h : Real (.agg cs)) {j : Nat} {x : AV} (hx : cs[j]? = some x) : Real x := by
  obtain ⟨F, w, τ, v, h⟩ := h
  cases h with
  | agg _ _ vs h1 h2 => exact ⟨F, w, _, _, h2 j x hx⟩
def Reals : List AV → Prop
  | [] => True
  | x :: r => Real x ∧ Reals r
theorem reals_of {F : Nat → Prop} {w : World} {τ : Nat → Option Value} : ∀ (avs : List AV) (vs : List Value), (∀ (j : Nat) (x : AV), avs[j]? = some x → Rep F w τ x (vs.getD j undef)) → Reals avs
  | [], _, _ => trivial
  | x :: r, vs, h => ⟨⟨F, w, τ, _, h 0 x rfl⟩, reals_of r (vs.drop 1) fun j y hy => by
      have := h (j + 1) y (by simpa using hy)
      simpa [List.getD_eq_getElem?_getD, List.getElem?_drop, Nat.add_comm] using this⟩

theorem ACallIs.of_body (B : Tabs) {f : FuncId} {fn : Func} {c : Code} {avs : List AV} {r : AV} (hf : B.P.funcs[f]? = some fn) (hb : fn.body = some c) (hnm : (fn.name != "runtime.NumGoroutine") = true) (hl : avs.length ≤ fn.ntmps)
    (h : Reals avs → AWp B fn.ntmps c ⟨enum 0 avs, []⟩ (Ends B fn.results.toList r)) : ACallIs B.P f avs r := by
  refine ⟨by unfold fnB; rw [hf]; simp only [hnm, hb]; rfl, fun F w vs hF hlen hrep => ?_⟩
  let cx : Cx := ⟨B.P, fn.ntmps, F, fun _ => False, w⟩
  refine calls_of_wp hf hb ?_
  have hvs : vs.toArray.size = avs.length := by simpa using hlen
  have hrel : Rel cx ⟨enum 0 avs, []⟩ { tmps := vs.toArray ++ Array.replicate (fn.ntmps - vs.toArray.size) undef, defers := [] } w := by
    refine ⟨fun _ => none, F, ⟨Keeps.refl _ _, hF, (fun _ _ _ _ h => by cases h), (fun k hk => .inl hk), (fun k hk => hk), (fun _ _ _ h => by cases h), (fun _ _ _ _ _ h => by cases h), (fun id o hl => by cases hl), (fun id v hv => by cases hv)⟩, by simp [cx, hvs]; omega, rfl, fun t x ht => ?_⟩
    obtain ⟨_, h2⟩ := look_enum avs 0 t x ht
    simp only [Nat.sub_zero] at h2
    have hlt : t < avs.length := (List.getElem?_eq_some_iff.1 h2).1
    refine ⟨by show t < fn.ntmps; omega, ?_⟩
    have e : (vs.toArray ++ Array.replicate (fn.ntmps - vs.toArray.size) undef).getD t undef = vs.getD t undef := by
      simp only [Array.getD_eq_getD_getElem?]
      rw [Array.getElem?_append_left (by omega)]
      simp
    rw [e]; exact hrep t x h2
  refine wp_mono ((h (reals_of avs vs hrep)).out cx rfl rfl (fun _ h => h) _ w hrel) fun e a' w' ⟨s', ⟨he, hp, hres⟩, hr'⟩ => ?_
  obtain ⟨τ, F', hr'⟩ := hr'
  obtain ⟨xs, hxs, hxl, hs⟩ := resAll_sound _ hres
  obtain ⟨us, h1, h2, h3⟩ := hs cx τ F' a' w' hr'
  have hbel : Below w.heap.size w w' := hr'.wr.keeps.below (fun _ h => h)
  have hrun : ∃ v, (results fn a'.tmps).run B.P w' = .ok v w' ∧ Rep F' w' τ r v := by
    refine ⟨if h : us.toArray.size = 1 then us.toArray[0] else .tuple us.toArray, ?_, ?_⟩
    · have hres : results fn a'.tmps = (do let vs ← fn.results.mapM (resF a'.tmps); pure (if h : vs.size = 1 then vs[0] else .tuple vs)) := by
        unfold results; congr 1
      rw [hres, Array.mapM_eq_mapM_toList]
      simp only [Sem.run_bind, Sem.run_map]
      rw [h3]
      rfl
    · have hxs := hxs ()
      subst hxs
      have tupc : xs.length ≠ 1 → Rep F' w' τ (.tup xs) (if h : us.toArray.size = 1 then us.toArray[0] else .tuple us.toArray) := by
        intro hne
        have hu : us.toArray.size ≠ 1 := by simpa [h1] using hne
        rw [dif_neg hu]
        exact .tup _ _ _ (by simp [h1]) fun j c hc => by simpa using h2 j c hc
      match xs, h1, h2, tupc with
      | [], _, _, tupc => exact tupc (by simp)
      | x :: y :: r, _, _, tupc => exact tupc (by simp)
      | [x], h1, h2, _ =>
        match us, h1, h2 with
        | [u], _, h2 => have h4 := h2 0 x rfl; simp at h4; exact h4
  obtain ⟨v, hv1, hv2⟩ := hrun
  have hfin : ∃ v F'', Ending.returned v = Ending.returned v ∧ Below w.heap.size w w' ∧ (∀ k, F k → F'' k) ∧ (∀ k, F'' k → F k ∨ w.heap.size ≤ k) ∧ (∀ k, F'' k → k < w'.heap.size) ∧ Rep F'' w' (fun _ => none) r v :=
    ⟨v, F', rfl, hbel, hr'.wr.fsup, hr'.wr.fsub, hr'.wr.fz, hv2.pure hp⟩
  have hpost : a'.defers = [] ∧ ∃ v', (results fn a'.tmps).run B.P w' = .ok v' w' ∧ ∃ v F'', Ending.returned v' = Ending.returned v ∧ Below w.heap.size w w' ∧ (∀ k, F k → F'' k) ∧ (∀ k, F'' k → F k ∨ w.heap.size ≤ k) ∧ (∀ k, F'' k → k < w'.heap.size) ∧ Rep F'' w' (fun _ => none) r v :=
    ⟨hr'.defers, v, hv1, v, F', rfl, hbel, hr'.wr.fsup, hr'.wr.fsub, hr'.wr.fz, hv2.pure hp⟩
  rcases he with rfl | rfl
  · exact hpost
  · exact hpost
end Go.Abs
namespace Go.Abs
open Go Go.RowKit
theorem ACallIs.out {P : Program} {f : FuncId} {avs : List AV} {r : AV} (h : ACallIs P f avs r) (F : Nat → Prop) (w : World) (vs : List Value) (hF : ∀ k, F k → k < w.heap.size) (hl : vs.length = avs.length) (hr : ∀ (j : Nat) (x : AV), avs[j]? = some x → Rep F w (fun _ => none) x (vs.getD j undef)) :
    Calls P f vs.toArray w fun e w' => ∃ v F', e = .returned v ∧ Below w.heap.size w w' ∧ (∀ k, F k → F' k) ∧ (∀ k, F' k → F k ∨ w.heap.size ≤ k) ∧ (∀ k, F' k → k < w'.heap.size) ∧ Rep F' w' (fun _ => none) r v := h.2 F w vs hF hl hr

/-- The entry, with what the loaded function says written out. -/
theorem ACallIs.enter (B : Tabs) {f : FuncId} {fn : Func} {c : Code} {avs : List AV} {r : AV} (n : Nat) (rvs : List ResultVar) (hf : B.P.funcs[f]? = some fn) (hb : fn.body = some c) (hnm : (fn.name != "runtime.NumGoroutine") = true) (hn : fn.ntmps = n) (hrv : fn.results = rvs.toArray) (hl : avs.length ≤ n)
    (h : Reals avs → AWp B n c ⟨enum 0 avs, []⟩ (Ends B rvs r)) : ACallIs B.P f avs r := by
  subst hn
  refine ACallIs.of_body B hf hb hnm hl fun hr => ?_
  rw [hrv]
  exact h hr
end Go.Abs
attribute [irreducible] Go.Abs.AWp Go.Abs.CallK Go.Abs.ACallIs
