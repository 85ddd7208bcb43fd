/- What is known of values, objects and memory; quiet operations, new objects and stores. No condition. -/
import Derived.WalkKit
import Derived.Below
import Derived.Deep.Quiet
import Derived.Laws.Rows
import Derived.Laws.Cells
set_option linter.unusedVariables false
set_option linter.unusedSimpArgs false
namespace Go.Abs
open Go Go.RowKit

/-- What is known of a value. -/
inductive AV where
  | val (v : Value)
  | agg (cs : List AV)
  | tup (cs : List AV)
  | ro (sz n : Nat) (row : Nat → List AV)
  | ptr (cs : List AV)
  | obj (id off : Nat)
  | sl (id n : Nat)
  | rp (id esz i off : Nat)
  | cond (g : Bool) (x : AV)
  | any

@[reducible] def AV.int (k : IntKind) (n : Int) : AV := .val (.int k n)
@[reducible] def AV.bool (b : Bool) : AV := .val (.bool b)
@[reducible] def AV.i64 (n : Int) : AV := .val (.int .i64 n)

/-- 'v' is as 'x' says, in the world w: 'F': blocks that are read and not written as long as this is relied on; 'τ': where the frame's own objects lie (a pointer to the first cell; a slice's header). What lies behind a read-only slice or pointer leads to no own object. -/
inductive Rep (F : Nat → Prop) (w : World) : (Nat → Option Value) → AV → Value → Prop
  | val (τ) (v : Value) : Rep F w τ (.val v) v
  | any (τ) (v : Value) : Rep F w τ .any v
  | condT (τ) (x : AV) (v : Value) : Rep F w τ x v → Rep F w τ (.cond true x) v
  | condF (τ) (x : AV) : Rep F w τ (.cond false x) undef
  | agg (τ) (cs : List AV) (vs : Array Value) : cs.length = vs.size → (∀ j c, cs[j]? = some c → Rep F w τ c (vs.getD j undef)) → Rep F w τ (.agg cs) (.agg vs)
  | tup (τ) (cs : List AV) (vs : Array Value) : cs.length = vs.size → (∀ j c, cs[j]? = some c → Rep F w τ c (vs.getD j undef)) → Rep F w τ (.tup cs) (.tuple vs)
  | ro (τ) (sz n : Nat) (row : Nat → List AV) (A : Option Addr) (c : Nat) (f : Nat → Nat → Value) : n ≤ c → c ≤ maxLen →
      (0 < n → ∃ b o, A = some ⟨b, o, none⟩ ∧ F b ∧ ∀ i j, i < n → j < sz → w.cell? ⟨b, o + i * sz + j, none⟩ = some (f i j)) →
      (∀ i, i < n → (row i).length = sz) → (∀ i j x, i < n → (row i)[j]? = some x → Rep F w (fun _ => none) x (f i j)) → Rep F w τ (.ro sz n row) (.slice A n c)
  | ptr (τ) (cs : List AV) (b o : Nat) (f : Nat → Value) : F b → (∀ j, j < cs.length → w.cell? ⟨b, o + j, none⟩ = some (f j)) →
      (∀ j x, cs[j]? = some x → Rep F w (fun _ => none) x (f j)) → Rep F w τ (.ptr cs) (.pointer (some ⟨b, o, none⟩))
  | obj (τ) (id off b : Nat) : τ id = some (.pointer (some ⟨b, 0, none⟩)) → Rep F w τ (.obj id off) (.pointer (some ⟨b, off, none⟩))
  | sl (τ) (id n : Nat) (A : Option Addr) (m c : Nat) : τ id = some (.slice A m c) → n ≤ m → m ≤ c → (0 < m → ∃ b, A = some ⟨b, 0, none⟩) → Rep F w τ (.sl id n) (.slice A n c)
  | rp (τ) (id esz i off b m c : Nat) : τ id = some (.slice (some ⟨b, 0, none⟩) m c) → Rep F w τ (.rp id esz i off) (.pointer (some ⟨b, i * esz + off, none⟩))

theorem Rep.mono {F F' : Nat → Prop} {w w' : World} {τ τ' : Nat → Option Value} {x : AV} {v : Value} (h : Rep F w τ x v)
    (hF : ∀ k, F k → F' k) (hw : ∀ k, F k → w'.heap[k]? = w.heap[k]?) (hτ : ∀ id b, τ id = some b → τ' id = some b) : Rep F' w' τ' x v := by
  induction h generalizing τ' with
  | val τ v => exact .val _ v
  | any τ v => exact .any _ v
  | condT τ x v _ ih => exact .condT _ x v (ih hτ)
  | condF τ x => exact .condF _ x
  | agg τ cs vs hl _ ih => exact .agg _ cs vs hl fun j c hc => ih j c hc hτ
  | tup τ cs vs hl _ ih => exact .tup _ cs vs hl fun j c hc => ih j c hc hτ
  | ro τ sz n row A c f h1 h2 h3 h4 _ ih =>
    refine .ro _ sz n row A c f h1 h2 (fun hn => ?_) h4 fun i j x hi hx => ih i j x hi hx (fun _ _ h => by cases h)
    obtain ⟨b, o, hA, hb, hc⟩ := h3 hn
    exact ⟨b, o, hA, hF b hb, fun i j hi hj => by rw [World.cell?_of_block (w := w) (hw b hb)]; exact hc i j hi hj⟩
  | ptr τ cs b o f h1 h2 _ ih =>
    exact .ptr _ cs b o f (hF b h1) (fun j hj => by rw [World.cell?_of_block (w := w) (hw b h1)]; exact h2 j hj) fun j x hx => ih j x hx (fun _ _ h => by cases h)
  | obj τ id off b hb => exact .obj _ id off b (hτ id _ hb)
  | sl τ id n A m c hb hn hm hA => exact .sl _ id n A m c (hτ id _ hb) hn hm hA
  | rp τ id esz i off b m c hb => exact .rp _ id esz i off b m c (hτ id _ hb)

mutual
def AV.pureB : AV → Bool
  | .val _ | .any | .ro _ _ _ | .ptr _ => true
  | .cond _ x => AV.pureB x
  | .agg cs | .tup cs => AV.pureL cs
  | .obj _ _ | .sl _ _ | .rp _ _ _ _ => false
def AV.pureL : List AV → Bool
  | [] => true
  | x :: r => AV.pureB x && AV.pureL r
end

theorem pureL_at : ∀ {cs : List AV}, AV.pureL cs = true → ∀ (j : Nat) (x : AV), cs[j]? = some x → x.pureB = true
  | [], _, j, x, h => by simp at h
  | c :: r, hp, j, x, h => by
    simp only [AV.pureL, Bool.and_eq_true] at hp
    cases j with
    | zero => simp at h; subst h; exact hp.1
    | succ j => exact pureL_at hp.2 j x (by simpa using h)

theorem Rep.pure {F : Nat → Prop} {w : World} {τ τ' : Nat → Option Value} {x : AV} {v : Value} (h : Rep F w τ x v) (hp : x.pureB = true) : Rep F w τ' x v := by
  induction h generalizing τ' with
  | val τ v => exact .val _ v
  | any τ v => exact .any _ v
  | condT τ x v _ ih => exact .condT _ x v (ih hp)
  | condF τ x => exact .condF _ x
  | agg τ cs vs hl _ ih => exact .agg _ cs vs hl fun j c hc => ih j c hc (pureL_at (by simpa [AV.pureB] using hp) j c hc)
  | tup τ cs vs hl _ ih => exact .tup _ cs vs hl fun j c hc => ih j c hc (pureL_at (by simpa [AV.pureB] using hp) j c hc)
  | ro τ sz n row A c f h1 h2 h3 h4 h5 _ => exact .ro _ sz n row A c f h1 h2 h3 h4 h5
  | ptr τ cs b o f h1 h2 h3 _ => exact .ptr _ cs b o f h1 h2 h3
  | obj τ id off b hb => simp [AV.pureB] at hp
  | sl τ id n A m c hb hn hm hA => simp [AV.pureB] at hp
  | rp τ id esz i off b m c hb => simp [AV.pureB] at hp

mutual
/-- It leads to such own objects alone. -/
def AV.refsB (p : Nat → Bool) : AV → Bool
  | .val _ | .any | .ro _ _ _ | .ptr _ => true
  | .cond _ x => AV.refsB p x
  | .agg cs | .tup cs => AV.refsL p cs
  | .obj id _ | .sl id _ | .rp id _ _ _ => p id
def AV.refsL (p : Nat → Bool) : List AV → Bool
  | [] => true
  | x :: r => AV.refsB p x && AV.refsL p r
end

theorem refsL_at {p : Nat → Bool} : ∀ {cs : List AV}, AV.refsL p cs = true → ∀ (j : Nat) (x : AV), cs[j]? = some x → AV.refsB p x = true
  | [], _, j, x, h => by simp at h
  | c :: r, hp, j, x, h => by
    simp only [AV.refsL, Bool.and_eq_true] at hp
    cases j with
    | zero => simp at h; subst h; exact hp.1
    | succ j => exact refsL_at hp.2 j x (by simpa using h)

theorem Rep.refs {F : Nat → Prop} {w : World} {τ τ' : Nat → Option Value} {x : AV} {v : Value} {p : Nat → Bool} (h : Rep F w τ x v) (hτ : ∀ id, p id = true → τ' id = τ id) (hp : AV.refsB p x = true) : Rep F w τ' x v := by
  induction h generalizing τ' with
  | val τ v => exact .val _ v
  | any τ v => exact .any _ v
  | condT τ x v _ ih => exact .condT _ x v (ih hτ hp)
  | condF τ x => exact .condF _ x
  | agg τ cs vs hl _ ih => exact .agg _ cs vs hl fun j c hc => ih j c hc hτ (refsL_at (by simpa [AV.refsB] using hp) j c hc)
  | tup τ cs vs hl _ ih => exact .tup _ cs vs hl fun j c hc => ih j c hc hτ (refsL_at (by simpa [AV.refsB] using hp) j c hc)
  | ro τ sz n row A c f h1 h2 h3 h4 h5 _ => exact .ro _ sz n row A c f h1 h2 h3 h4 h5
  | ptr τ cs b o f h1 h2 h3 _ => exact .ptr _ cs b o f h1 h2 h3
  | obj τ id off b hb => exact .obj _ id off b (by rw [hτ id hp]; exact hb)
  | sl τ id n A m c hb hn hm hA => exact .sl _ id n A m c (by rw [hτ id hp]; exact hb) hn hm hA
  | rp τ id esz i off b m c hb => exact .rp _ id esz i off b m c (by rw [hτ id hp]; exact hb)

theorem add_none (b o n : Nat) : (Addr.mk b o none).add n = ⟨b, o + n, none⟩ := by
  unfold Addr.add; split
  · subst_vars; rfl
  · rfl

def look {α : Type} : List (Nat × α) → Nat → Option α
  | [], _ => none
  | (k, v) :: r, n => match Nat.beq n k with
    | true => some v
    | false => look r n

theorem look_cons {α : Type} (k : Nat) (v : α) (r : List (Nat × α)) (n : Nat) : look ((k, v) :: r) n = if n = k then some v else look r n := by
  by_cases h : n = k
  · subst h; simp [look]
  · have : Nat.beq n k = false := by
      cases e : Nat.beq n k with
      | false => rfl
      | true => exact absurd (Nat.eq_of_beq_eq_true e) h
    simp [look, this, h]

/-- A test that comes out true. -/
def chk (b : Bool) (K : Prop) : Prop :=
  match b with
  | true => K
  | false => False
theorem chk_spec {b : Bool} {K : Prop} (h : chk b K) : b = true ∧ K := by
  cases b
  · exact h.elim
  · exact ⟨rfl, h⟩

/-- What is known of a type. -/
inductive TI where
  | scalar
  | bool
  | int (k : IntKind)
  | slice (e esz bytes : Nat)
  | struct (size : Nat) (offs : List (Nat × Nat))
  | array (n esz : Nat) (one : Bool)
  deriving Inhabited

def szOf (P : Program) (t : Nat) : Nat := ((P.info? t).map (·.size)).getD 0

def TI.okB (P : Program) (t : Nat) : TI → Bool
  | .scalar => (match P.underlying t with | some (.struct _) | some (.array _ _) | none => false | _ => true) && (match P.info? t with | some i => i.size == 1 | none => false)
  | .bool => (match P.underlying t with | some .bool => true | _ => false) && (match P.info? t with | some i => i.size == 1 | none => false)
  | .int k => (match P.underlying t with | some (.int k') => k' == k | _ => false) && (match P.info? t with | some i => i.size == 1 | none => false)
  | .slice e esz by_ => (match P.underlying t with | some (.slice e') => e' == e | _ => false) && (match P.info? e with | some i => i.size == esz && i.bytes == by_ | none => false) && decide (0 < esz) && (match P.info? t with | some i => i.size == 1 | none => false)
  | .struct size offs => (match P.underlying t with | some (.struct fs) => (fs.toList.map fun f => (f.offset, szOf P f.type)) == offs && fs.toList.all (fun f => (P.info? f.type).isSome) | _ => false) && (match P.info? t with | some i => i.size == size | none => false)
  | .array n esz one => (match P.underlying t with | some (.array n' e) => n' == n && (match P.info? e with | some i => i.size == esz | none => false) && (match P.underlying e with | some (.struct _) | some (.array _ _) | none => !one | _ => true) | _ => false) && (match P.info? t with | some i => i.size == n * esz | none => false)

def TI.one : TI → Bool
  | .scalar | .bool | .int _ | .slice _ _ _ => true
  | _ => false
/-- How many cells. -/
def TI.aggSize : TI → Nat
  | .struct n _ => n
  | .array n e _ => n * e
  | _ => 1

def tabB (P : Program) (T : List (Nat × TI)) : Bool := T.all fun x => x.2.okB P x.1

theorem tabB_look {P : Program} {T : List (Nat × TI)} (h : tabB P T = true) {t : Nat} {ti : TI} (ht : look T t = some ti) : ti.okB P t = true := by
  induction T with
  | nil => cases ht
  | cons x r ih =>
    obtain ⟨k, v⟩ := x
    simp only [tabB, List.all_cons, Bool.and_eq_true] at h
    rw [look_cons] at ht
    split at ht
    · rename_i hk; injection ht with ht; subst ht; subst hk; exact h.1
    · exact ih h.2 ht
end Go.Abs

namespace Go.Abs
open Go Go.RowKit

/-- An object of the frame's own: a variable (a block of cells), or a row behind a slice (nil let in). -/
inductive HO where
  | cells (cs : List AV)
  | row (e esz n : Nat) (row : Nat → List AV)

structure St where
  env : List (Nat × AV)
  heap : List (Nat × HO)

/-- The fixed part of a frame's surroundings: the program, how many slots, the blocks that may be read and are never written, the blocks of old that may be written, the world at the entry. -/
structure Cx where
  P : Program
  n : Nat
  F : Nat → Prop
  X : Nat → Prop
  w : World

def hblk : Value → Option Nat
  | .pointer (some a) => some a.block
  | .slice (some a) _ _ => some a.block
  | _ => none

/-- Of the blocks of old none has turned but those of X. -/
structure Keeps (X : Nat → Prop) (w w' : World) : Prop where
  os : w'.os = w.os
  tape : w'.tape = w.tape
  output : w'.output = w.output
  size : w.heap.size ≤ w'.heap.size
  block : ∀ k, k < w.heap.size → ¬ X k → w'.heap[k]? = w.heap[k]?

theorem Keeps.refl (X : Nat → Prop) (w : World) : Keeps X w w := ⟨rfl, rfl, rfl, Nat.le_refl _, fun _ _ _ => rfl⟩
theorem Keeps.below {X : Nat → Prop} {w w' : World} (h : Keeps X w w') (hX : ∀ k, ¬ X k) : Below w.heap.size w w' := ⟨h.os, h.tape, h.output, h.size, fun k hk => h.block k hk (hX k)⟩
theorem Keeps.of_below {X : Nat → Prop} {w w' : World} (h : Below w.heap.size w w') : Keeps X w w' := ⟨h.os, h.tape, h.output, h.size, fun k hk _ => h.block k hk⟩
theorem Keeps.trans {X : Nat → Prop} {a b c : World} (h : Keeps X a b) (k : Keeps X b c) : Keeps X a c :=
  ⟨k.os.trans h.os, k.tape.trans h.tape, k.output.trans h.output, Nat.le_trans h.size k.size, fun i hi hx => (k.block i (Nat.lt_of_lt_of_le hi h.size) hx).trans (h.block i hi hx)⟩

def HOk (F : Nat → Prop) (w : World) (τ : Nat → Option Value) (o : HO) (v : Value) : Prop :=
  match o with
  | .cells cs => ∃ b c ty, v = .pointer (some ⟨b, 0, none⟩) ∧ w.heap[b]? = some (.cells c ty (0, 0)) ∧ c.size = cs.length ∧ ∀ j x, cs[j]? = some x → Rep F w τ x (c.getD j undef)
  | .row e esz n row => ∃ xs, w.ownsRow 0 e esz v n xs ∧ (∀ i, i < n → (row i).length = esz) ∧ ∀ (i j : Nat) (x : AV), i < n → (row i)[j]? = some x → Rep F w (fun _ => none) x (xs.getD (i * esz + j) undef)

structure RelW (cx : Cx) (τ : Nat → Option Value) (F : Nat → Prop) (s : St) (w : World) : Prop where
  keeps : Keeps cx.X cx.w w
  fz : ∀ k, F k → k < w.heap.size
  fne : ∀ k id v, F k → τ id = some v → hblk v ≠ some k
  fsub : ∀ k, F k → cx.F k ∨ cx.w.heap.size ≤ k
  fsup : ∀ k, cx.F k → F k
  tlt : ∀ id v b, τ id = some v → hblk v = some b → (cx.w.heap.size ≤ b ∨ cx.X b) ∧ b < w.heap.size
  inj : ∀ id id' v v' b, τ id = some v → τ id' = some v' → hblk v = some b → hblk v' = some b → id = id'
  obj : ∀ id o, look s.heap id = some o → ∃ v, τ id = some v ∧ HOk F w τ o v
  dom : ∀ id v, τ id = some v → ∃ o, look s.heap id = some o

def EnvR (F : Nat → Prop) (τ : Nat → Option Value) (w : World) (n : Nat) (env : List (Nat × AV)) (tmps : Array Value) : Prop :=
  ∀ t x, look env t = some x → t < n ∧ Rep F w τ x (tmps.getD t undef)

structure RelA (cx : Cx) (τ : Nat → Option Value) (F : Nat → Prop) (s : St) (a : Act) (w : World) : Prop where
  wr : RelW cx τ F s w
  size : a.tmps.size = cx.n
  defers : a.defers = []
  env : EnvR F τ w cx.n s.env a.tmps

def Rel (cx : Cx) (s : St) (a : Act) (w : World) : Prop := ∃ τ F, RelA cx τ F s a w

theorem HOk.mono {F F' : Nat → Prop} {w w' : World} {τ τ' : Nat → Option Value} {o : HO} {v : Value} (h : HOk F w τ o v)
    (hF : ∀ k, F k → F' k) (hw : ∀ k, F k → w'.heap[k]? = w.heap[k]?) (hτ : ∀ id b, τ id = some b → τ' id = some b) (hv : ∀ b, hblk v = some b → w'.heap[b]? = w.heap[b]?) : HOk F' w' τ' o v := by
  cases o with
  | cells cs =>
    obtain ⟨b, c, ty, rfl, h3, h4, h5⟩ := h
    exact ⟨b, c, ty, rfl, (hv b rfl).trans h3, h4, fun j x hx => (h5 j x hx).mono hF hw hτ⟩
  | row e esz n row =>
    obtain ⟨xs, h1, h2, h3⟩ := h
    refine ⟨xs, ⟨h1.1, ?_⟩, h2, fun i j x hi hx => (h3 i j x hi hx).mono hF hw (fun _ _ h => by cases h)⟩
    rcases h1.2 with h | ⟨g, cap, cur, rfl, q1, q2, q3⟩
    · exact .inl h
    · exact .inr ⟨g, cap, cur, rfl, q1, (hv g rfl).trans q2, q3⟩

/-- No block of an old world has turned: what is known stays known. -/
theorem RelA.later {cx : Cx} {τ F s a w w'} (h : RelA cx τ F s a w) (hb : Below w.heap.size w w') : RelA cx τ F s a w' := by
  have hw : ∀ k, F k → w'.heap[k]? = w.heap[k]? := fun k hk => hb.block k (h.wr.fz k hk)
  refine ⟨⟨h.wr.keeps.trans (.of_below hb), fun k hk => Nat.lt_of_lt_of_le (h.wr.fz k hk) hb.size, h.wr.fne, h.wr.fsub, h.wr.fsup, fun id v b hv hk => ⟨(h.wr.tlt id v b hv hk).1, Nat.lt_of_lt_of_le (h.wr.tlt id v b hv hk).2 hb.size⟩, h.wr.inj, fun id o hl => ?_, h.wr.dom⟩, h.size, h.defers, fun t x ht => ⟨(h.env t x ht).1, (h.env t x ht).2.mono (fun _ h => h) hw (fun _ _ h => h)⟩⟩
  obtain ⟨v, h1, h2⟩ := h.wr.obj id o hl
  exact ⟨v, h1, h2.mono (fun _ h => h) hw (fun _ _ h => h) fun b hv => hb.block b (h.wr.tlt id v b h1 hv).2⟩

/-- More blocks that are never written. -/
theorem RelA.more {cx : Cx} {τ F F' s a w} (h : RelA cx τ F s a w) (hF : ∀ k, F k → F' k) (hz : ∀ k, F' k → k < w.heap.size) (hne : ∀ k id v, F' k → τ id = some v → hblk v ≠ some k) (hsub : ∀ k, F' k → cx.F k ∨ cx.w.heap.size ≤ k) : RelA cx τ F' s a w := by
  refine ⟨⟨h.wr.keeps, hz, hne, hsub, fun k hk => hF k (h.wr.fsup k hk), h.wr.tlt, h.wr.inj, fun id o hl => ?_, h.wr.dom⟩, h.size, h.defers, fun t x ht => ⟨(h.env t x ht).1, (h.env t x ht).2.mono hF (fun _ _ => rfl) (fun _ _ h => h)⟩⟩
  obtain ⟨v, h1, h2⟩ := h.wr.obj id o hl
  exact ⟨v, h1, h2.mono hF (fun _ _ => rfl) (fun _ _ h => h) fun _ _ => rfl⟩

/-- A value for the destination. -/
theorem RelA.put {cx : Cx} {τ F s a w} (h : RelA cx τ F s a w) (d : Nat) (x : AV) (v : Value) (hr : Rep F w τ x v) (hd : d < cx.n) :
    RelA cx τ F { s with env := (d, x) :: s.env } (a.put (some d) v) w := by
  refine ⟨⟨h.wr.keeps, h.wr.fz, h.wr.fne, h.wr.fsub, h.wr.fsup, h.wr.tlt, h.wr.inj, h.wr.obj, h.wr.dom⟩, by simp [Act.put, h.size], by simp [Act.put, h.defers], fun t y ht => ?_⟩
  rw [look_cons] at ht
  split at ht
  · rename_i e; subst e
    injection ht with ht; subst ht
    refine ⟨hd, ?_⟩
    have : (a.tmps.setIfInBounds t v).getD t undef = v := by
      have ht : t < a.tmps.size := by rw [h.size]; exact hd
      simp [ht]
    simp only [Act.put]; rw [this]; exact hr
  · rename_i e
    obtain ⟨h1, h2⟩ := h.env t y ht
    refine ⟨h1, ?_⟩
    have : (a.tmps.setIfInBounds d v).getD t undef = a.tmps.getD t undef := by
      simp only [Array.getD_eq_getD_getElem?]
      rw [Array.getElem?_setIfInBounds_ne (by omega)]
    simp only [Act.put]; rw [this]; exact h2

/-- What a known value is under a guard. -/
def uncond (g : Bool) (x : AV) (K : AV → Prop) : Prop :=
  match x with
  | .cond g' y => (g = true → g' = true) ∧ K y
  | y => K y

def aget (g : Bool) (s : St) (x : Operand) (K : AV → Prop) : Prop :=
  match x with
  | .const v => K (.val v)
  | .func f => K (.val (.func (.func f) #[] #[]))
  | .global n => K (.val (.pointer (some ⟨n, 0, none⟩)))
  | .tmp t => match look s.env t with
    | some x => uncond g x K
    | none => False

theorem uncond_sound {g : Bool} {x : AV} {K : AV → Prop} (h : uncond g x K) : ∃ y, K y ∧ ∀ F τ w v, g = true → Rep F w τ x v → Rep F w τ y v := by
  cases x with
  | cond g' y =>
    obtain ⟨h1, h2⟩ := h
    refine ⟨y, h2, fun F τ w v hg hr => ?_⟩
    cases hr with
    | condT _ _ _ hr => exact hr
    | condF => exact absurd (h1 hg) (by simp)
  | _ => exact ⟨_, h, fun _ _ _ _ _ hr => hr⟩

theorem aget_sound {g : Bool} {s : St} {x : Operand} {K : AV → Prop} (h : aget g s x K) :
    ∃ y, K y ∧ ∀ F τ w n (a : Act), g = true → EnvR F τ w n s.env a.tmps → Rep F w τ y (a.eval x) := by
  cases x with
  | const v => exact ⟨_, h, fun F τ w n a _ _ => .val _ v⟩
  | func f => exact ⟨_, h, fun F τ w n a _ _ => .val _ _⟩
  | global m => exact ⟨_, h, fun F τ w n a _ _ => .val _ _⟩
  | tmp t =>
    simp only [aget] at h
    cases hl : look s.env t with
    | none => rw [hl] at h; exact h.elim
    | some x =>
      rw [hl] at h
      obtain ⟨y, hy, hs⟩ := uncond_sound h
      exact ⟨y, hy, fun F τ w n a hg he => hs F τ w _ hg (he t x hl).2⟩

def agets (g : Bool) (s : St) : List Operand → (List AV → Prop) → Prop
  | [], K => K []
  | x :: r, K => aget g s x fun y => agets g s r fun ys => K (y :: ys)

theorem agets_sound {g : Bool} {s : St} {xs : List Operand} : ∀ {K : List AV → Prop}, agets g s xs K →
    ∃ ys, K ys ∧ ys.length = xs.length ∧ ∀ F τ w n (a : Act), g = true → EnvR F τ w n s.env a.tmps → ∀ (j : Nat) (y : AV), (ys : List AV)[j]? = some y → ∃ x, xs[j]? = some x ∧ Rep F w τ y (a.eval x) := by
  induction xs with
  | nil => intro K h; exact ⟨[], h, rfl, fun _ _ _ _ _ _ _ j y hj => by simp at hj⟩
  | cons x r ih =>
    intro K h
    obtain ⟨y, hy, hs⟩ := aget_sound h
    obtain ⟨ys, hys, hl, hss⟩ := ih hy
    refine ⟨y :: ys, hys, by simp [hl], fun F τ w n a hg he j z hj => ?_⟩
    cases j with
    | zero => simp at hj; subst hj; exact ⟨x, rfl, hs F τ w n a hg he⟩
    | succ j => simp at hj; obtain ⟨x', h1, h2⟩ := hss F τ w n a hg he j z hj; exact ⟨x', by simpa using h1, h2⟩

end Go.Abs

namespace Go.Abs
open Go Go.RowKit

def binI (op : BinOp) (k : IntKind) (a b : Int) (K : AV → Prop) : Prop :=
  match op with
  | .add => K (.int k (k.wrap (a + b)))
  | .sub => K (.int k (k.wrap (a - b)))
  | .mul => K (.int k (k.wrap (a * b)))
  | .quo => b ≠ 0 ∧ K (.int k (k.wrap (a.tdiv b)))
  | .rem => b ≠ 0 ∧ K (.int k (a.tmod b))
  | .eql => K (.bool (a == b))
  | .neq => K (.bool (a != b))
  | .lss => K (.bool (decide (a < b)))
  | .leq => K (.bool (decide (a ≤ b)))
  | .gtr => K (.bool (decide (a > b)))
  | .geq => K (.bool (decide (a ≥ b)))
  | .and => K (.int k (bits .and k a b))
  | .or => K (.int k (bits .or k a b))
  | .xor => K (.int k (bits .xor k a b))
  | .andNot => K (.int k (bits .andNot k a b))
  | _ => False

def shiftI (op : BinOp) (k : IntKind) (a b : Int) (K : AV → Prop) : Prop :=
  match op with
  | .shl => 0 ≤ b ∧ K (.int k (k.wrap (a * 2 ^ min b.toNat k.bits)))
  | .shr => 0 ≤ b ∧ K (.int k (a.fdiv (2 ^ min b.toNat k.bits)))
  | _ => False

def BinOp.isShift : BinOp → Bool
  | .shl | .shr => true
  | _ => false

def ikB (a b : IntKind) : Bool := Nat.beq a.ctorIdx b.ctorIdx
theorem ikB_spec {a b : IntKind} (h : ikB a b = true) : a = b := by
  cases a <;> cases b <;> first | rfl | (exact absurd h (by decide))

def binB (op : BinOp) (a b : Bool) (K : AV → Prop) : Prop :=
  match op with
  | .eql => K (.bool (a == b))
  | .neq => K (.bool (a != b))
  | _ => False

def bin (T : List (Nat × TI)) (g : Bool) (op : BinOp) (t : Nat) (x y : AV) (K : AV → Prop) : Prop :=
  match x, y with
  | .val (.bool a), .val (.bool b) => (match look T t with
    | some .bool => binB op a b K
    | _ => False)
  | .val (.int k a), .val (.int k' b) => match BinOp.isShift op with
    | true => shiftI op k a b (fun r => (g = true → 0 ≤ b) ∧ K r)
    | false => chk (ikB k k') (binI op k a b K)
  | _, _ => False

theorem binI_sound {op : BinOp} {k : IntKind} {a b : Int} {K : AV → Prop} {t : Nat} (hs : BinOp.isShift op = false) (h : binI op k a b K) :
    ∃ y, K y ∧ ∀ F τ w, ∃ v, Rep F w τ y v ∧ ∀ P w', (binOp op t (.int k a) (.int k b)).run P w' = .ok v w' := by
  cases op <;> first | (exact absurd hs (by decide)) | skip
  all_goals simp only [binI] at h
  all_goals clear hs
  case quo =>
    exact ⟨_, h.2, fun F τ w => ⟨_, .val _ _, fun P w' => by rw [binOp_quo]; simp [Op.intDiv, h.1]⟩⟩
  case rem =>
    exact ⟨_, h.2, fun F τ w => ⟨_, .val _ _, fun P w' => by rw [binOp_rem]; simp [Op.intDiv, h.1]⟩⟩
  all_goals exact ⟨_, h, fun F τ w => ⟨_, .val _ _, fun P w' => by simp [binOp_add, binOp_sub, binOp_mul, binOp_eql, binOp_neq, binOp_lss, binOp_leq, binOp_gtr, binOp_geq, binOp_and, binOp_or, binOp_xor, binOp_andNot, Op.intArith, intBits_and, intBits_or, intBits_xor, intBits_andNot]⟩⟩

theorem shiftI_sound {op : BinOp} {k k' : IntKind} {a b : Int} {K : AV → Prop} {t : Nat} (h : shiftI op k a b K) :
    ∃ y, K y ∧ ∀ F τ w, ∃ v, Rep F w τ y v ∧ ∀ P w', (binOp op t (.int k a) (.int k' b)).run P w' = .ok v w' := by
  cases op <;> simp only [shiftI] at h <;> first | exact h.elim | skip
  all_goals exact ⟨_, h.2, fun F τ w => ⟨_, .val _ _, fun P w' => by simp [binOp_shl, binOp_shr, Op.shift, Int.not_lt.2 h.1]⟩⟩

/-- The cells behind an address, from there on. -/
def cellsAt (g : Bool) (s : St) (x : AV) (K : List AV → Prop) : Prop :=
  match x with
  | .rp id esz i off => match look s.heap id with
    | some (.row _ esz' n row) => chk (Nat.beq esz esz') ((g = true → i < n) ∧ K ((row i).drop off))
    | _ => False
  | .ptr cs => K cs
  | .obj id off => match look s.heap id with
    | some (.cells cs) => K (cs.drop off)
    | _ => False
  | _ => False

def loadv (T : List (Nat × TI)) (g : Bool) (s : St) (t : Nat) (x : AV) (K : AV → Prop) : Prop :=
  cellsAt g s x fun cs => match look T t with
    | some (.struct size _) => chk (Nat.ble size cs.length) (K (.agg (cs.take size)))
    | some (.array n e _) => chk (Nat.ble (n * e) cs.length) (K (.agg (cs.take (n * e))))
    | some _ => chk (Nat.blt 0 cs.length) (K (cs.headD .any))
    | none => False

def fieldv (T : List (Nat × TI)) (t f : Nat) (x : AV) (K : AV → Prop) : Prop :=
  match look T t with
  | some (.struct _ offs) => match offs[f]? with
    | some (o, sz) => chk (!Nat.beq sz 0) (match x with
      | .ptr cs => K (.ptr (cs.drop o))
      | .obj id off => K (.obj id (off + o))
      | .rp id esz i off => K (.rp id esz i (off + o))
      | _ => False)
    | none => False
  | _ => False

def indexv (T : List (Nat × TI)) (g : Bool) (t : Nat) (x i : AV) (K : AV → Prop) : Prop :=
  match look T t, x, i with
  | some (.slice _ esz _), .sl id n, .val (.int _ i) => (g = true → 0 ≤ i ∧ i < (n : Int)) ∧ K (.rp id esz i.toNat 0)
  | some (.slice _ esz _), .ro sz n row, .val (.int _ i) => chk (Nat.beq sz esz) ((g = true → 0 ≤ i ∧ i < (n : Int)) ∧ K (.ptr (row i.toNat)))
  | some (.array n esz _), .ptr cs, .val (.int _ i) => (g = true → 0 ≤ i ∧ i < (n : Int)) ∧ K (.ptr (cs.drop (i.toNat * esz)))
  | some (.array n esz _), .obj id off, .val (.int _ i) => (g = true → 0 ≤ i ∧ i < (n : Int)) ∧ K (.obj id (off + i.toNat * esz))
  | _, _, _ => False

def lenv (x : AV) (K : AV → Prop) : Prop :=
  match x with
  | .ro _ n _ => K (.i64 n)
  | .val (.slice _ n _) => K (.i64 n)
  | .sl _ n => K (.i64 n)
  | _ => False

def unv (op : UnOp) (x : AV) (K : AV → Prop) : Prop :=
  match op, x with
  | .not, .val (.bool b) => K (.bool (!b))
  | .neg, .val (.int k n) => K (.int k (k.wrap (0 - n)))
  | _, _ => False

/-- A bound of a slice. -/
def boundv (x : Option AV) (dflt : Int) (K : Int → Prop) : Prop :=
  match x with
  | none => K dflt
  | some (.val (.int _ i)) => K i
  | _ => False

def slicev (g : Bool) (esz : Nat) (x : AV) (lo hi : Option AV) (K : AV → Prop) : Prop :=
  match x with
  | .ro sz n row => boundv lo 0 fun l => boundv hi n fun h => chk (Nat.beq sz esz) ((g = true → 0 ≤ l ∧ l ≤ h ∧ h ≤ (n : Int)) ∧ K (.ro sz (h - l).toNat (fun j => row (l.toNat + j))))
  | .sl id n => match lo with
    | none => boundv hi n fun h => (g = true → 0 ≤ h ∧ h ≤ (n : Int)) ∧ K (.sl id h.toNat)
    | _ => False
  | _ => False

def agetO (g : Bool) (s : St) (x : Option Operand) (K : Option AV → Prop) : Prop :=
  match x with
  | none => K none
  | some x => aget g s x fun y => K (some y)

/-- One quiet operation: no call, nothing written. -/
def qop (T : List (Nat × TI)) (g : Bool) (s : St) (op : Op) (K : AV → Prop) : Prop :=
  match op with
  | .move x | .assign x => aget g s x K
  | .pick c x y => aget g s c fun cv => match cv with
    | .val (.bool b) => aget (g && b) s x fun xv => aget (g && !b) s y fun yv => (match xv, yv with
      | .val (.bool p), .val (.bool q) => K (.bool (bif b then p else q))
      | _, _ => False)
    | _ => False
  | .load t x => aget g s x fun xv => loadv T g s t xv K
  | .binOp op t x y _ => aget g s x fun xv => aget g s y fun yv => bin T g op t xv yv K
  | .unOp op _ x => aget g s x fun xv => unv op xv K
  | .fieldAddr t x f => aget g s x fun xv => fieldv T t f xv K
  | .indexAddr t x i => aget g s x fun xv => aget g s i fun iv => indexv T g t xv iv K
  | .index t x i => aget g s x fun xv => aget g s i fun iv => (match look T t, xv, iv with
    | some (.array n esz one), .agg cs, .val (.int _ i) => chk (one && Nat.beq esz 1) ((g = true → 0 ≤ i ∧ i < (n : Int) ∧ i.toNat < cs.length) ∧ K (cs.getD i.toNat .any))
    | _, _, _ => False)
  | .extract x i => aget g s x fun xv => match xv with
    | .tup cs => chk (Nat.blt i cs.length) (K (cs.getD i .any))
    | _ => False
  | .nilCheck x => aget g s x fun xv => match xv with
    | .ptr cs => K (.ptr cs)
    | .obj id off => K (.obj id off)
    | _ => False
  | .convert src dst x => aget g s x fun xv => match look T src, look T dst, xv with
    | some (.int _), some (.int k), .val (.int _ n) => K (.int k (k.wrap n))
    | _, _, _ => False
  | .slice t x lo hi none => aget g s x fun xv => agetO g s lo fun lv => agetO g s hi fun hv => (match look T t with | some (.slice _ esz _) => slicev g esz xv lv hv K | _ => False)
  | .call { callee := .builtin .len, args := as, argTypes := ts } => match as.toList, ts.toList with
    | [x], [t] => aget g s x fun xv => (match look T t with | some (.slice _ _ _) => lenv xv K | _ => False)
    | _, _ => False
  | _ => False

end Go.Abs

namespace Go.Abs
open Go Go.RowKit
set_option linter.unusedVariables false

def aggB : TypeDesc → Bool
  | .struct _ | .array _ _ => true
  | _ => false

def KnownAt (F : Nat → Prop) (τ : Nat → Option Value) (w : World) (cs : List AV) (b o : Nat) : Prop :=
  b < w.heap.size ∧ ∃ f : Nat → Value, (∀ j, j < cs.length → w.cell? ⟨b, o + j, none⟩ = some (f j)) ∧ ∀ j x, cs[j]? = some x → Rep F w τ x (f j)

theorem RelW.obj_known {cx τ F s w} (h : RelW cx τ F s w) {id : Nat} {cs : List AV} (hl : look s.heap id = some (.cells cs)) (off : Nat) {b : Nat} (hb : τ id = some (.pointer (some ⟨b, 0, none⟩))) : KnownAt F τ w (cs.drop off) b off := by
  obtain ⟨v, h1, b', c, ty, rfl, h3, h4, h5⟩ := h.obj id _ hl
  rw [hb] at h1; injection h1 with h1; injection h1 with h1; injection h1 with h1; injection h1 with h1; subst h1
  refine ⟨(h.tlt id _ b hb rfl).2, fun j => c.getD (off + j) undef, fun j hj => ?_, fun j x hx => ?_⟩
  · rw [cell_of_row _ _ _ _ _ _ h3]
    have : off + j < c.size := by rw [h4]; simp at hj; omega
    simp [this]
  · exact h5 (off + j) x (by rw [List.getElem?_drop] at hx; exact hx)

theorem row_known {F : Nat → Prop} {τ : Nat → Option Value} {w : World} {e esz n b m c : Nat} {row : Nat → List AV} (h : HOk F w τ (.row e esz n row) (.slice (some ⟨b, 0, none⟩) m c)) {i : Nat} (hi : i < n) (off : Nat) (hlt : b < w.heap.size) : KnownAt F τ w ((row i).drop off) b (i * esz + off) := by
  obtain ⟨xs, h1, h2, h3⟩ := h
  rcases h1.2 with ⟨h, _⟩ | ⟨g, cap, cur, hv, _, hg, hnc, hcm, hcs, htk⟩
  · cases h
  · simp only [Value.slice.injEq, Option.some.injEq, Addr.mk.injEq, and_true] at hv
    obtain ⟨rfl, rfl, rfl⟩ := hv
    have hbound : ∀ j, j < esz → i * esz + j < m * esz := fun j hj => by
      have : (i + 1) * esz ≤ m * esz := Nat.mul_le_mul_right _ hi
      rw [Nat.add_mul, Nat.one_mul] at this; omega
    refine ⟨hlt, fun j => xs.getD (i * esz + (off + j)) undef, fun j hj => ?_, fun j x hx => ?_⟩
    · have hj' : off + j < esz := by have := h2 i hi; simp at hj; omega
      have hb := hbound (off + j) hj'
      rw [cell_of_row _ _ _ _ _ _ hg, Nat.add_assoc]
      have hx : cur[i * esz + (off + j)]? = xs[i * esz + (off + j)]? := by
        rw [← htk, List.getElem?_take, if_pos hb]; simp
      rw [hx]
      have : i * esz + (off + j) < xs.length := by rw [h1.1]; exact hb
      simp [List.getElem?_eq_getElem this]
    · exact (h3 i (off + j) x hi (by rw [List.getElem?_drop] at hx; exact hx)).mono (fun _ h => h) (fun _ _ => rfl) (fun _ _ h => by cases h)

theorem cellsAt_sound {g : Bool} {s : St} {x : AV} {K : List AV → Prop} (h : cellsAt g s x K) :
    ∃ cs, K cs ∧ ∀ cx τ F w u, g = true → RelW cx τ F s w → Rep F w τ x u → ∃ b o, u = .pointer (some ⟨b, o, none⟩) ∧ KnownAt F τ w cs b o := by
  unfold cellsAt at h
  split at h
  · rename_i id esz i off
    split at h
    · rename_i e esz' n row hl
      obtain ⟨hz, hg, h2⟩ := chk_spec h
      have hzz := Nat.eq_of_beq_eq_true hz
      subst hzz
      refine ⟨_, h2, fun cx τ F w u hgt hw hr => ?_⟩
      cases hr with
      | rp _ _ _ _ _ b m c hb =>
        obtain ⟨v, h1, ho⟩ := hw.obj id _ hl
        rw [hb] at h1; injection h1 with h1; subst h1
        exact ⟨b, _, rfl, row_known ho (hg hgt) off (hw.tlt id _ b hb rfl).2⟩
    · exact h.elim
  · rename_i cs
    refine ⟨cs, h, fun cx τ F w u hgt hw hr => ?_⟩
    cases hr with
    | ptr _ _ b o f h1 h2 h3 => exact ⟨b, o, rfl, hw.fz b h1, f, h2, fun j x hx => (h3 j x hx).mono (fun _ h => h) (fun _ _ => rfl) (fun _ _ h => by cases h)⟩
  · rename_i id off
    split at h
    · rename_i cs hl
      refine ⟨_, h, fun cx τ F w u hgt hw hr => ?_⟩
      cases hr with
      | obj _ _ _ b hb => exact ⟨b, off, rfl, hw.obj_known hl off hb⟩
    · exact h.elim
  · exact h.elim

theorem KnownAt.cell {F τ w w' cs b o} (h : KnownAt F τ w cs b o) (hb : Below w.heap.size w w') : ∃ f : Nat → Value, (∀ j, j < cs.length → w'.cell? ⟨b, o + j, none⟩ = some (f j)) ∧ ∀ j x, cs[j]? = some x → Rep F w τ x (f j) := by
  obtain ⟨h1, f, h2, h3⟩ := h
  exact ⟨f, fun j hj => by rw [hb.cell (p := ⟨b, o + j, none⟩) h1]; exact h2 j hj, h3⟩

theorem isAgg_run {P : Program} {t : Nat} {d : TypeDesc} (h : P.underlying t = some d) (w : World) : (isAgg t).run P w = .ok (aggB d) w := by
  simp only [isAgg, Sem.run_bind, run_underlying h, Result.andThen_ok]
  cases d <;> rfl

theorem sizeOf_run {P : Program} {t : Nat} {i : TypeInfo} (h : P.info? t = some i) (w : World) : (sizeOf t).run P w = .ok i.size w := by
  simp [sizeOf, typeInfo, h]

theorem ok_struct {P : Program} {t size : Nat} {offs : List (Nat × Nat)} (h : (TI.struct size offs).okB P t = true) :
    ∃ fs i, P.underlying t = some (.struct fs) ∧ P.info? t = some i ∧ i.size = size ∧ (fs.toList.map fun f => (f.offset, szOf P f.type)) = offs ∧ ∀ f ∈ fs.toList, (P.info? f.type).isSome = true := by
  simp only [TI.okB, Bool.and_eq_true] at h
  obtain ⟨h1, h2⟩ := h
  split at h1
  · rename_i fs hu
    split at h2
    · rename_i i hi
      simp only [Bool.and_eq_true, beq_iff_eq, List.all_eq_true] at h1 h2
      exact ⟨fs, i, hu, hi, h2, h1.1, h1.2⟩
    · cases h2
  · cases h1

theorem ok_array {P : Program} {t n esz : Nat} {one : Bool} (h : (TI.array n esz one).okB P t = true) :
    ∃ e i j, P.underlying t = some (.array n e) ∧ P.info? e = some i ∧ i.size = esz ∧ P.info? t = some j ∧ j.size = n * esz ∧ (one = true → ∃ d, P.underlying e = some d ∧ aggB d = false) := by
  simp only [TI.okB, Bool.and_eq_true] at h
  obtain ⟨h1, h2⟩ := h
  split at h1
  · rename_i n' e hu
    split at h2
    · rename_i j hj
      simp only [Bool.and_eq_true, beq_iff_eq] at h1 h2
      obtain ⟨⟨rfl, h1⟩, h3⟩ := h1
      split at h1
      · rename_i i hi
        refine ⟨e, i, j, hu, hi, by simpa using h1, hj, h2, fun ho => ?_⟩
        subst ho
        cases hue : P.underlying e with
        | none => rw [hue] at h3; simp at h3
        | some d => refine ⟨d, rfl, ?_⟩; rw [hue] at h3; cases d <;> simp_all [aggB]
      · cases h1
    · cases h2
  · cases h1

theorem ok_slice {P : Program} {t e esz by_ : Nat} (h : (TI.slice e esz by_).okB P t = true) : ∃ i, P.underlying t = some (.slice e) ∧ P.info? e = some i ∧ i.size = esz ∧ 0 < esz ∧ i.bytes = by_ := by
  simp only [TI.okB, Bool.and_eq_true] at h
  obtain ⟨⟨⟨h1, h2⟩, h3⟩, _⟩ := h
  split at h1
  · rename_i e' hu
    split at h2
    · rename_i i hi
      simp only [beq_iff_eq, Bool.and_eq_true] at h1 h2
      subst h1
      exact ⟨i, hu, hi, h2.1, by simpa using h3, h2.2⟩
    · cases h2
  · cases h1

theorem ok_int {P : Program} {t : Nat} {k : IntKind} (h : (TI.int k).okB P t = true) : P.underlying t = some (.int k) := by
  simp only [TI.okB, Bool.and_eq_true] at h
  obtain ⟨h1, _⟩ := h
  split at h1
  · rename_i k' hu; simp only [beq_iff_eq] at h1; subst h1; exact hu
  · cases h1

theorem ok_bool {P : Program} {t : Nat} (h : TI.bool.okB P t = true) : P.underlying t = some .bool := by
  simp only [TI.okB, Bool.and_eq_true] at h
  obtain ⟨h1, _⟩ := h
  split at h1
  · assumption
  · cases h1

theorem ok_one {P : Program} {t : Nat} {ti : TI} (ho : ti.one = true) (h : ti.okB P t = true) : ∃ d, P.underlying t = some d ∧ aggB d = false := by
  cases ti with
  | scalar =>
    simp only [TI.okB, Bool.and_eq_true] at h
    cases hu : P.underlying t with
    | none => rw [hu] at h; simp at h
    | some d => refine ⟨d, rfl, ?_⟩; rw [hu] at h; cases d <;> simp_all [aggB]
  | int k => exact ⟨_, ok_int h, rfl⟩
  | bool => exact ⟨_, ok_bool h, rfl⟩
  | slice e n _ => obtain ⟨i, h1, _⟩ := ok_slice h; exact ⟨_, h1, rfl⟩
  | struct => simp [TI.one] at ho
  | array => simp [TI.one] at ho

/-- A whole variable of several cells. -/
theorem load_agg {P : Program} {t n : Nat} {d : TypeDesc} {i : TypeInfo} (hd : P.underlying t = some d) (ha : aggB d = true) (hi : P.info? t = some i) (hn : i.size = n)
    {w' : World} {b o : Nat} {f : Nat → Value} (hc : ∀ j, j < n → w'.cell? ⟨b, o + j, none⟩ = some (f j)) :
    (Instr.loadAt t (.pointer (some ⟨b, o, none⟩))).run P w' = .ok (.agg ((List.range n).map f).toArray) w' := by
  simp only [Instr.loadAt, Instr.sureAddr, Sem.run_bind, Sem.run_pure, Result.andThen_ok, loadVar, isAgg_run hd, ha, if_true, sizeOf_run hi, hn]
  rw [run_loadCells w' _ n f (fun j hj => by rw [add_none]; exact hc j hj)]
  rfl

theorem load_one {P : Program} {t : Nat} {d : TypeDesc} (hd : P.underlying t = some d) (ha : aggB d = false)
    {w' : World} {a : Addr} {v : Value} (hc : w'.cell? a = some v) : (Instr.loadAt t (.pointer (some a))).run P w' = .ok v w' := by
  simp only [Instr.loadAt, Instr.sureAddr, Sem.run_bind, Sem.run_pure, Result.andThen_ok, loadVar, isAgg_run hd, ha]
  simp [hc]

theorem rep_take {F τ w} {cs : List AV} {n : Nat} {f : Nat → Value} (hn : n ≤ cs.length) (h : ∀ j x, cs[j]? = some x → Rep F w τ x (f j)) : Rep F w τ (.agg (cs.take n)) (.agg ((List.range n).map f).toArray) := by
  refine .agg _ _ _ (by simp; omega) fun j x hx => ?_
  rw [List.getElem?_take] at hx
  split at hx
  · rename_i hj
    have := h j x hx
    have e : (((List.range n).map f).toArray).getD j undef = f j := by simp [hj]
    rw [e]; exact this
  · cases hx

theorem loadv_sound {P : Program} {T : List (Nat × TI)} (hT : tabB P T = true) {g : Bool} {s : St} {t : Nat} {x : AV} {K : AV → Prop} (h : loadv T g s t x K) :
    ∃ y, K y ∧ ∀ cx τ F w u, g = true → RelW cx τ F s w → Rep F w τ x u → ∃ v, Rep F w τ y v ∧ ∀ w', Below w.heap.size w w' → (Instr.loadAt t u).run P w' = .ok v w' := by
  unfold loadv at h
  obtain ⟨cs, h, hs⟩ := cellsAt_sound h
  cases hl : look T t with
  | none => rw [hl] at h; exact h.elim
  | some ti =>
    rw [hl] at h
    have hok := tabB_look hT hl
    have one : ti.one = true → chk (Nat.blt 0 cs.length) (K (cs.headD .any)) → ∃ y, K y ∧ ∀ cx τ F w u, g = true → RelW cx τ F s w → Rep F w τ x u → ∃ v, Rep F w τ y v ∧ ∀ w', Below w.heap.size w w' → (Instr.loadAt t u).run P w' = .ok v w' := by
      intro ho hh
      obtain ⟨h1, h2⟩ := chk_spec hh
      have h1 : 0 < cs.length := by simpa [Nat.blt_eq] using h1
      refine ⟨_, h2, fun cx τ F w u hg hw hr => ?_⟩
      obtain ⟨b, o, rfl, hk⟩ := hs cx τ F w u hg hw hr
      obtain ⟨d, hd, ha⟩ := ok_one ho hok
      have hlen := h1
      obtain ⟨hlt, f, hf, hrep⟩ := hk
      refine ⟨f 0, ?_, fun w' hb => load_one hd ha ?_⟩
      · cases cs with
        | nil => simp at hlen
        | cons c r => exact hrep 0 c rfl
      · rw [hb.cell (p := ⟨b, o, none⟩) hlt]; simpa using hf 0 hlen
    cases ti with
    | scalar => exact one rfl h
    | int k => exact one rfl h
    | bool => exact one rfl h
    | slice e n _ => exact one rfl h
    | struct size offs =>
      obtain ⟨h1, h2⟩ := chk_spec h
      have h1 := Nat.le_of_ble_eq_true h1
      obtain ⟨fs, i, hu, hi, hsz, _⟩ := ok_struct hok
      refine ⟨_, h2, fun cx τ F w u hg hw hr => ?_⟩
      obtain ⟨b, o, rfl, hk⟩ := hs cx τ F w u hg hw hr
      obtain ⟨hlt, f, hf, hrep⟩ := hk
      refine ⟨_, rep_take h1 hrep, fun w' hb => load_agg hu rfl hi hsz fun j hj => ?_⟩
      rw [hb.cell (p := ⟨b, o + j, none⟩) hlt]; exact hf j (Nat.lt_of_lt_of_le hj h1)
    | array n e _ =>
      obtain ⟨h1, h2⟩ := chk_spec h
      have h1 := Nat.le_of_ble_eq_true h1
      obtain ⟨e', i, j', hu, _, _, hi, hsz, _⟩ := ok_array hok
      refine ⟨_, h2, fun cx τ F w u hg hw hr => ?_⟩
      obtain ⟨b, o, rfl, hk⟩ := hs cx τ F w u hg hw hr
      obtain ⟨hlt, f, hf, hrep⟩ := hk
      refine ⟨_, rep_take h1 hrep, fun w' hb => load_agg hu rfl hi hsz fun j hj => ?_⟩
      rw [hb.cell (p := ⟨b, o + j, none⟩) hlt]; exact hf j (Nat.lt_of_lt_of_le hj h1)

theorem rep_ptr_drop {F τ w} {cs : List AV} {u : Value} (h : Rep F w τ (.ptr cs) u) (k : Nat) : ∃ b o, u = .pointer (some ⟨b, o, none⟩) ∧ Rep F w τ (.ptr (cs.drop k)) (.pointer (some ⟨b, o + k, none⟩)) := by
  cases h with
  | ptr _ _ b o f h1 h2 h3 =>
    refine ⟨b, o, rfl, .ptr _ _ b (o + k) (fun j => f (k + j)) h1 (fun j hj => ?_) (fun j x hx => ?_)⟩
    · rw [Nat.add_assoc]; exact h2 (k + j) (by simp at hj; omega)
    · exact h3 (k + j) x (by rw [List.getElem?_drop] at hx; exact hx)

theorem fieldAt_run {P : Program} {t size f o sz : Nat} {offs : List (Nat × Nat)} (hok : (TI.struct size offs).okB P t = true) (hf : offs[f]? = some (o, sz)) (hz : sz ≠ 0) (b off : Nat) (w : World) :
    (Instr.fieldAt t (.pointer (some ⟨b, off, none⟩)) f).run P w = .ok (.pointer (some ⟨b, off + o, none⟩)) w := by
  obtain ⟨fs, i, hu, _, _, hoffs, hsome⟩ := ok_struct hok
  subst hoffs
  rw [List.getElem?_map] at hf
  cases hfs : fs.toList[f]? with
  | none => rw [hfs] at hf; cases hf
  | some fd =>
    rw [hfs] at hf
    simp only [Option.map_some, Option.some.injEq, Prod.mk.injEq] at hf
    obtain ⟨h1, h2⟩ := hf
    have hmem : fd ∈ fs.toList := List.mem_of_getElem? hfs
    have hi := hsome fd hmem
    obtain ⟨fi, hfi⟩ := Option.isSome_iff_exists.1 hi
    have hfa : fs[f]? = some fd := by simpa using hfs
    have hsz : fi.size = sz := by rw [← h2]; simp [szOf, hfi]
    have hne : fi.size ≠ 0 := by rw [hsz]; exact hz
    simp only [Instr.fieldAt, Sem.run_bind, run_underlying hu, Result.andThen_ok, hfa, Instr.sureAddr, Sem.run_pure, fieldPlace, sizeOf_run hfi, hne, if_false]
    simp [add_none, h1]

theorem fieldv_sound {P : Program} {T : List (Nat × TI)} (hT : tabB P T = true) {t f : Nat} {x : AV} {K : AV → Prop} (h : fieldv T t f x K) :
    ∃ y, K y ∧ ∀ F τ w u, Rep F w τ x u → ∃ v, Rep F w τ y v ∧ ∀ w', (Instr.fieldAt t u f).run P w' = .ok v w' := by
  unfold fieldv at h
  split at h
  · rename_i size offs hl
    have hok := tabB_look hT hl
    split at h
    · rename_i o sz hf
      obtain ⟨hz, h⟩ := chk_spec h
      have hz : sz ≠ 0 := by rintro rfl; exact absurd hz (by decide)
      split at h
      · refine ⟨_, h, fun F τ w u hr => ?_⟩
        obtain ⟨b, o', rfl, hr'⟩ := rep_ptr_drop hr o
        exact ⟨_, hr', fun w' => fieldAt_run hok hf hz b o' w'⟩
      · refine ⟨_, h, fun F τ w u hr => ?_⟩
        cases hr with
        | obj _ _ _ b hb => exact ⟨_, .obj _ _ _ b hb, fun w' => fieldAt_run hok hf hz b _ w'⟩
      · refine ⟨_, h, fun F τ w u hr => ?_⟩
        cases hr with
        | rp _ _ _ _ _ b m c hb => exact ⟨_, .rp _ _ _ _ _ b m c hb, fun w' => by rw [fieldAt_run hok hf hz b _ w', Nat.add_assoc]⟩
      · exact h.elim
    · exact h.elim
  · exact h.elim

theorem indexv_sound {P : Program} {T : List (Nat × TI)} (hT : tabB P T = true) {g : Bool} {t : Nat} {x i : AV} {K : AV → Prop} (h : indexv T g t x i K) :
    ∃ y, K y ∧ ∀ F τ w u v, g = true → Rep F w τ x u → Rep F w τ i v → ∃ r, Rep F w τ y r ∧ ∀ w', (Instr.indexAt t u v).run P w' = .ok r w' := by
  unfold indexv at h
  split at h
  · rename_i e esz by_ id n k i hl
    have hok := tabB_look hT hl
    obtain ⟨fi, hu, hi, hsz, hpos, _⟩ := ok_slice hok
    obtain ⟨hg, h⟩ := h
    refine ⟨_, h, fun F τ w u v hgt hr hv => ?_⟩
    obtain ⟨h0, h1⟩ := hg hgt
    cases hv
    cases hr with
    | sl _ _ _ A m c hb hn hm hA =>
      obtain ⟨b, rfl⟩ := hA (by omega)
      refine ⟨_, .rp _ id esz i.toNat 0 b m c hb, fun w' => ?_⟩
      simp [Instr.indexAt, run_underlying hu, asIntOf, h0, h1, sizeOf_run hi, hsz, add_none]
  · rename_i e esz by_ sz n row k i hl
    have hok := tabB_look hT hl
    obtain ⟨fi, hu, hi, hsz, hpos, _⟩ := ok_slice hok
    obtain ⟨hsz', hg, h2⟩ := chk_spec h
    have hszz := Nat.eq_of_beq_eq_true hsz'
    subst hszz
    refine ⟨_, h2, fun F τ w u v hgt hr hv => ?_⟩
    obtain ⟨h0, h1⟩ := hg hgt
    cases hv
    cases hr with
    | ro _ _ _ _ A c f q1 q2 q3 q4 q5 =>
      obtain ⟨b, o, rfl, hb, hc⟩ := q3 (by omega)
      have hin : i.toNat < n := by omega
      refine ⟨_, .ptr _ (row i.toNat) b (o + i.toNat * sz) (f i.toNat) hb (fun j hj => hc i.toNat j hin (by rw [q4 _ hin] at hj; exact hj)) (fun j x hx => q5 i.toNat j x hin hx), fun w' => ?_⟩
      simp [Instr.indexAt, run_underlying hu, asIntOf, h0, h1, sizeOf_run hi, hsz, add_none]
  · rename_i n esz _ cs k i hl
    have hok := tabB_look hT hl
    obtain ⟨e, fi, _, hu, hi, hsz, _, _, _⟩ := ok_array hok
    obtain ⟨hg, h⟩ := h
    refine ⟨_, h, fun F τ w u v hgt hr hv => ?_⟩
    obtain ⟨h0, h1⟩ := hg hgt
    cases hv
    obtain ⟨b, o, rfl, hr'⟩ := rep_ptr_drop hr (i.toNat * esz)
    refine ⟨_, hr', fun w' => ?_⟩
    simp [Instr.indexAt, run_underlying hu, Instr.sureAddr, asIntOf, h0, h1, sizeOf_run hi, hsz, add_none]
  · rename_i n esz _ id off k i hl
    have hok := tabB_look hT hl
    obtain ⟨e, fi, _, hu, hi, hsz, _, _, _⟩ := ok_array hok
    obtain ⟨hg, h⟩ := h
    refine ⟨_, h, fun F τ w u v hgt hr hv => ?_⟩
    obtain ⟨h0, h1⟩ := hg hgt
    cases hv
    cases hr with
    | obj _ _ _ b hb =>
      refine ⟨_, .obj _ id _ b hb, fun w' => ?_⟩
      simp [Instr.indexAt, run_underlying hu, Instr.sureAddr, asIntOf, h0, h1, sizeOf_run hi, hsz, add_none]
  · exact h.elim
theorem equalIn_bool {P : Program} {t : Nat} (hu : P.underlying t = some .bool) (n : Nat) (a b : Bool) (w : World) : (Op.equalIn (n + 1) t (.bool a) (.bool b)).run P w = .ok (a == b) w := by
  simp [Op.equalIn, run_underlying hu]
theorem equal_bool {P : Program} {t : Nat} (hu : P.underlying t = some .bool) (a b : Bool) (w : World) : (Op.equal t (.bool a) (.bool b)).run P w = .ok (a == b) w :=
  equalIn_bool hu 9999 a b w

theorem bin_sound {P : Program} {T : List (Nat × TI)} (hT : tabB P T = true) {g : Bool} {op : BinOp} {x y : AV} {K : AV → Prop} {t : Nat} (h : bin T g op t x y K) :
    ∃ z, K z ∧ ∀ F τ w u v, g = true → Rep F w τ x u → Rep F w τ y v → ∃ r, Rep F w τ z r ∧ ∀ w' xo yo, (do eqGuard op t xo yo u v; binOp op t u v).run P w' = .ok r w' := by
  unfold bin at h
  split at h
  · rename_i a b
    split at h
    · rename_i hl
      have hu := ok_bool (tabB_look hT hl)
      unfold binB at h
      split at h
      · refine ⟨_, h, fun F τ w u v hg hu' hv' => ?_⟩
        cases hu'; cases hv'
        refine ⟨_, .val _ _, fun w' xo yo => ?_⟩
        simp [eqGuard, binOp, equal_bool hu]
      · refine ⟨_, h, fun F τ w u v hg hu' hv' => ?_⟩
        cases hu'; cases hv'
        refine ⟨_, .val _ _, fun w' xo yo => ?_⟩
        simp [eqGuard, binOp, equal_bool hu]
        cases a <;> cases b <;> rfl
      · exact h.elim
    · exact h.elim
  · rename_i k a k' b
    split at h
    · rename_i hs
      cases op <;> simp only [BinOp.isShift] at hs <;> (try (exact absurd hs (by decide)))
      all_goals
        simp only [shiftI] at h
        obtain ⟨h1, h2, h3⟩ := h
        refine ⟨_, h3, fun F τ w u v hg hu hv => ?_⟩
        cases hu; cases hv
        refine ⟨_, .val _ _, fun w' xo yo => ?_⟩
        simp [eqGuard, binOp_shl, binOp_shr, Op.shift, Int.not_lt.2 h1]
    · rename_i hs
      obtain ⟨hk, h2⟩ := chk_spec h
      have hkk := ikB_spec hk
      subst hkk
      obtain ⟨z, hz, hr⟩ := binI_sound (t := t) (by simpa using hs) h2
      refine ⟨z, hz, fun F τ w u v hg hu hv => ?_⟩
      cases hu; cases hv
      obtain ⟨r, h1, h2⟩ := hr F τ w
      refine ⟨r, h1, fun w' xo yo => ?_⟩
      rw [Sem.run_bind, show (eqGuard op t xo yo (.int k a) (.int k b)) = pure () from by cases op <;> rfl]
      exact h2 P w'
  · exact h.elim
end Go.Abs

namespace Go.Abs
open Go Go.RowKit
set_option linter.unusedVariables false

/-- In every later world it hands back the value, and leaves the world alone. -/
def Quiet (P : Program) (op : Op) (ty : TypeId) (a : Act) (w : World) (v : Value) : Prop :=
  ∀ (o : Oper), o.op = op → ∀ w', Below w.heap.size w w' → (execOp a.eval o).run P w' = .ok (.value v) w'

theorem agetO_sound {g : Bool} {s : St} {x : Option Operand} {K : Option AV → Prop} (h : agetO g s x K) :
    ∃ y, K y ∧ ∀ F τ w n (a : Act), g = true → EnvR F τ w n s.env a.tmps → (x = none ∧ y = none) ∨ ∃ xo z, x = some xo ∧ y = some z ∧ Rep F w τ z (a.eval xo) := by
  cases x with
  | none => exact ⟨_, h, fun _ _ _ _ _ _ _ => .inl ⟨rfl, rfl⟩⟩
  | some x =>
    obtain ⟨y, hy, hs⟩ := aget_sound (K := fun y => K (some y)) h
    exact ⟨_, hy, fun F τ w n a hg he => .inr ⟨_, _, rfl, rfl, hs F τ w n a hg he⟩⟩

theorem boundv_sound {x : Option AV} {d : Int} {K : Int → Prop} (h : boundv x d K) : ∃ i, K i ∧ ((x = none ∧ i = d) ∨ ∃ k, x = some (.val (.int k i))) := by
  unfold boundv at h
  split at h
  · exact ⟨_, h, .inl ⟨rfl, rfl⟩⟩
  · exact ⟨_, h, .inr ⟨_, rfl⟩⟩
  · exact h.elim

theorem sliceBound_ok {P : Program} {w : World} {k : IntKind} {i : Int} {y : Nat} {code : BoundsCode} (h0 : 0 ≤ i) (h1 : i ≤ y) : (Instr.sliceBound (.int k i) y code).run P w = .ok i.toNat w := by
  simp [Instr.sliceBound, asIntOf, h0, h1]

theorem slice_run {P : Program} {t e esz : Nat} {by_ : Nat} (hok : (TI.slice e esz by_).okB P t = true) {A : Option Addr} {n c : Nat} {lo hi : Option Value} {l h : Int}
    (hlo : (lo = none ∧ l = 0) ∨ ∃ k, lo = some (.int k l)) (hhi : (hi = none ∧ h = n) ∨ ∃ k, hi = some (.int k h)) (h0 : 0 ≤ l) (h1 : l ≤ h) (h2 : h ≤ (n : Int)) (hc : n ≤ c) (w : World) :
    (Instr.sliceAt t (.slice A n c) lo hi none).run P w = .ok (.slice (if c = l.toNat then A else A.map (·.add (l.toNat * esz))) (h.toNat - l.toNat) (c - l.toNat)) w := by
  obtain ⟨fi, hu, hi', hsz, hpos, _⟩ := ok_slice hok
  rcases hlo with ⟨rfl, rfl⟩ | ⟨k, rfl⟩ <;> rcases hhi with ⟨rfl, rfl⟩ | ⟨k', rfl⟩
  all_goals simp only [Instr.sliceAt, Instr.slice, Instr.sliceBounds, Sem.run_bind, run_underlying hu, Result.andThen_ok, Sem.run_pure, sizeOf_run hi', hsz, pure_bind, if_true]
  all_goals (try rw [sliceBound_ok (by omega) (by omega)])
  all_goals (try simp only [Result.andThen_ok])
  all_goals (try rw [sliceBound_ok (by omega) (by omega)])
  all_goals (simp [sizeOf_run hi', hsz]; done)

theorem slicev_sound {P : Program} {T : List (Nat × TI)} (hT : tabB P T = true) {g : Bool} {t e esz by_ : Nat} (hl : look T t = some (.slice e esz by_)) {x : AV} {lo hi : Option AV} {K : AV → Prop} (h : slicev g esz x lo hi K) :
    ∃ y, K y ∧ ∀ F τ w u (lv hv : Option Value), g = true → Rep F w τ x u →
      ((lo = none ∧ lv = none) ∨ ∃ z v, lo = some z ∧ lv = some v ∧ Rep F w τ z v) → ((hi = none ∧ hv = none) ∨ ∃ z v, hi = some z ∧ hv = some v ∧ Rep F w τ z v) →
      ∃ r, Rep F w τ y r ∧ ∀ w', (Instr.sliceAt t u lv hv none).run P w' = .ok r w' := by
  have hok := tabB_look hT hl
  have conv : ∀ F τ w (x : Option AV) (xv : Option Value) (d i : Int), ((x = none ∧ i = d) ∨ ∃ k, x = some (.val (.int k i))) → ((x = none ∧ xv = none) ∨ ∃ z v, x = some z ∧ xv = some v ∧ Rep F w τ z v) → (xv = none ∧ i = d) ∨ ∃ k, xv = some (.int k i) := by
    intro F τ w x xv d i h1 h2
    rcases h1 with ⟨rfl, rfl⟩ | ⟨k, rfl⟩
    · rcases h2 with ⟨_, rfl⟩ | ⟨z, v, h, _⟩
      · exact .inl ⟨rfl, rfl⟩
      · cases h
    · rcases h2 with ⟨h, _⟩ | ⟨z, v, h, rfl, hr⟩
      · cases h
      · injection h with h; subst h; cases hr; exact .inr ⟨k, rfl⟩
  unfold slicev at h
  split at h
  · rename_i sz n row
    obtain ⟨l, h, hlo⟩ := boundv_sound h
    obtain ⟨hh, h, hhi⟩ := boundv_sound h
    obtain ⟨hsz', hg, h2⟩ := chk_spec h
    have hszz := Nat.eq_of_beq_eq_true hsz'
    subst hszz
    refine ⟨_, h2, fun F τ w u lv hv hgt hr h1 h2 => ?_⟩
    obtain ⟨q0, q1, q2⟩ := hg hgt
    cases hr with
    | ro _ _ _ _ A c f p1 p2 p3 p4 p5 =>
      refine ⟨_, ?_, fun w' => slice_run hok (conv F τ w lo lv 0 l hlo h1) (conv F τ w hi hv n hh hhi h2) q0 q1 q2 p1 w'⟩
      have e1 : hh.toNat - l.toNat = (hh - l).toNat := by omega
      rw [e1]
      refine .ro _ _ _ _ _ _ (fun i j => f (l.toNat + i) j) (by omega) (by omega) (fun hn => ?_) (fun i hi => p4 _ (by omega)) (fun i j x hi hx => p5 _ j x (by omega) hx)
      obtain ⟨b, o, rfl, hb, hc⟩ := p3 (by omega)
      rw [if_neg (by omega)]
      refine ⟨b, o + l.toNat * sz, by simp [add_none], hb, fun i j hi hj => ?_⟩
      have := hc (l.toNat + i) j (by omega) hj
      rw [Nat.add_mul, ← Nat.add_assoc] at this
      exact this
  · rename_i id n
    split at h
    · obtain ⟨hh, h, hhi⟩ := boundv_sound h
      obtain ⟨hg, h⟩ := h
      refine ⟨_, h, fun F τ w u lv hv hgt hr h1 h2 => ?_⟩
      obtain ⟨q0, q1⟩ := hg hgt
      cases hr with
      | sl _ _ _ A m c hτ hnm hmc hA =>
        refine ⟨_, ?_, fun w' => slice_run hok (.inl ⟨?_, rfl⟩) (conv F τ w hi hv n hh hhi h2) (Int.le_refl 0) q0 q1 (by omega) w'⟩
        · have e1 : (if c = (0 : Int).toNat then A else A.map (·.add ((0 : Int).toNat * esz))) = A := by
            split
            · rfl
            · cases A <;> simp [Addr.add]
          rw [e1]
          simp only [Int.toNat_zero, Nat.sub_zero]
          exact .sl _ _ _ A m c hτ (by omega) hmc hA
        · rcases h1 with ⟨_, h⟩ | ⟨z, v, h, _⟩
          · exact h
          · cases h
    · exact h.elim
  · exact h.elim

theorem exec_value {P : Program} {x : Sem Value} {v : Value} {w w' : World} (h : x.run P w = .ok v w') : (do pure (Next.value (← x)) : Sem Next).run P w = .ok (.value v) w' := by
  simp [h]

/-- The soundness of the quiet operations. -/
theorem qop_sound {P : Program} {T : List (Nat × TI)} (hT : tabB P T = true) {g : Bool} {s : St} {op : Op} {K : AV → Prop} (h : qop T g s op K) :
    ∃ y, K y ∧ ∀ cx τ F w (a : Act), g = true → RelA cx τ F s a w → ∃ v, Rep F w τ y v ∧ ∀ (o : Oper), o.op = op → ∀ w', Below w.heap.size w w' → (execOp a.eval o).run P w' = .ok (.value v) w' := by
  unfold qop at h
  split at h
  case h_1 x =>
    obtain ⟨y, hy, hs⟩ := aget_sound h
    exact ⟨y, hy, fun cx τ F w a hg hr => ⟨_, hs F τ w cx.n a hg hr.env, fun o ho w' hb => by simp [execOp, ho]⟩⟩
  case h_2 x =>
    obtain ⟨y, hy, hs⟩ := aget_sound h
    exact ⟨y, hy, fun cx τ F w a hg hr => ⟨_, hs F τ w cx.n a hg hr.env, fun o ho w' hb => by simp [execOp, ho]⟩⟩
  case h_3 c x y =>
    obtain ⟨cv, h, hc⟩ := aget_sound h
    split at h
    · rename_i b
      obtain ⟨xv, h, hx⟩ := aget_sound h
      obtain ⟨yv, h, hy⟩ := aget_sound h
      split at h
      · rename_i p q
        refine ⟨_, h, fun cx τ F w a hg hr => ⟨_, .val _ _, fun o ho w' hb => ?_⟩⟩
        have h1 := hc F τ w cx.n a hg hr.env
        generalize hce : a.eval c = cval at h1
        cases h1
        cases b with
        | true =>
          have h2 := hx F τ w cx.n a (by simp [hg]) hr.env
          generalize hxe : a.eval x = xval at h2
          cases h2
          simp [execOp, ho, asBool, hxe, hce]
        | false =>
          have h2 := hy F τ w cx.n a (by simp [hg]) hr.env
          generalize hxe : a.eval y = xval at h2
          cases h2
          simp [execOp, ho, asBool, hxe, hce]
      · exact h.elim
    · exact h.elim
  case h_4 t x =>
    obtain ⟨xv, h, hx⟩ := aget_sound h
    obtain ⟨y, hy, hs⟩ := loadv_sound hT h
    refine ⟨y, hy, fun cx τ F w a hg hr => ?_⟩
    obtain ⟨v, h1, h2⟩ := hs cx τ F w _ hg hr.wr (hx F τ w cx.n a hg hr.env)
    exact ⟨v, h1, fun o ho w' hb => by simp only [execOp, ho]; exact exec_value (h2 w' hb)⟩
  case h_5 bop t x y t' =>
    obtain ⟨xv, h, hx⟩ := aget_sound h
    obtain ⟨yv, h, hy⟩ := aget_sound h
    obtain ⟨z, hz, hs⟩ := bin_sound hT h
    refine ⟨z, hz, fun cx τ F w a hg hr => ?_⟩
    obtain ⟨v, h1, h2⟩ := hs F τ w _ _ hg (hx F τ w cx.n a hg hr.env) (hy F τ w cx.n a hg hr.env)
    exact ⟨v, h1, fun o ho w' hb => by simp only [execOp, ho]; exact exec_value (h2 w' x y)⟩
  case h_6 uop t x =>
    obtain ⟨xv, h, hx⟩ := aget_sound h
    unfold unv at h
    split at h
    · refine ⟨_, h, fun cx τ F w a hg hr => ⟨_, .val _ _, fun o ho w' hb => ?_⟩⟩
      have h1 := hx F τ w cx.n a hg hr.env
      generalize hxe : a.eval x = xval at h1
      cases h1
      simp [execOp, ho, hxe, Op.unary]
    · refine ⟨_, h, fun cx τ F w a hg hr => ⟨_, .val _ _, fun o ho w' hb => ?_⟩⟩
      have h1 := hx F τ w cx.n a hg hr.env
      generalize hxe : a.eval x = xval at h1
      cases h1
      simp [execOp, ho, hxe, Op.unary, Op.intArith]
    · exact h.elim
  case h_7 t x f =>
    obtain ⟨xv, h, hx⟩ := aget_sound h
    obtain ⟨y, hy, hs⟩ := fieldv_sound hT h
    refine ⟨y, hy, fun cx τ F w a hg hr => ?_⟩
    obtain ⟨v, h1, h2⟩ := hs F τ w _ (hx F τ w cx.n a hg hr.env)
    exact ⟨v, h1, fun o ho w' hb => by simp only [execOp, ho]; exact exec_value (h2 w')⟩
  case h_8 t x i =>
    obtain ⟨xv, h, hx⟩ := aget_sound h
    obtain ⟨iv, h, hi⟩ := aget_sound h
    obtain ⟨y, hy, hs⟩ := indexv_sound hT h
    refine ⟨y, hy, fun cx τ F w a hg hr => ?_⟩
    obtain ⟨v, h1, h2⟩ := hs F τ w _ _ hg (hx F τ w cx.n a hg hr.env) (hi F τ w cx.n a hg hr.env)
    exact ⟨v, h1, fun o ho w' hb => by simp only [execOp, ho]; exact exec_value (h2 w')⟩
  case h_9 t x i =>
    obtain ⟨xv, h, hx⟩ := aget_sound h
    obtain ⟨iv, h, hi⟩ := aget_sound h
    split at h
    · rename_i n esz one cs k i' hl _
      obtain ⟨hk, hg', h⟩ := chk_spec h
      simp only [Bool.and_eq_true] at hk
      obtain ⟨e', fi, _, hu, hfi, hsz, _, _, hone⟩ := ok_array (tabB_look hT hl)
      obtain ⟨d, hd, hagg⟩ := hone hk.1
      have hsz1 : fi.size = 1 := by rw [hsz]; exact Nat.eq_of_beq_eq_true hk.2
      refine ⟨_, h, fun cx τ F w a hg hr => ?_⟩
      obtain ⟨q0, q1, q2⟩ := hg' hg
      have h1 := hx F τ w cx.n a hg hr.env
      have h2 := hi F τ w cx.n a hg hr.env
      generalize hxe : a.eval x = xval at h1
      generalize hie : a.eval i = ival at h2
      cases h2
      cases h1 with
      | agg _ _ vs hl hv =>
        refine ⟨vs.getD i'.toNat undef, hv _ _ (by rw [List.getD_eq_getElem?_getD, List.getElem?_eq_getElem q2]; rfl), fun o ho w' hb => ?_⟩
        have hlt : i'.toNat < vs.size := by omega
        simp only [execOp, ho]
        refine exec_value ?_
        simp [Instr.index, hxe, hie, asIntOf, run_underlying hu, q0, q1, sizeOf_run hfi, hsz1, part, isAgg_run hd, hagg, hlt]
    · exact h.elim
  case h_10 x i =>
    obtain ⟨xv, h, hx⟩ := aget_sound h
    split at h
    · rename_i cs
      obtain ⟨hi, h⟩ := chk_spec h
      have hi : i < cs.length := by simpa [Nat.blt_eq] using hi
      refine ⟨_, h, fun cx τ F w a hg hr => ?_⟩
      have h1 := hx F τ w cx.n a hg hr.env
      generalize hxe : a.eval x = xval at h1
      cases h1 with
      | tup _ _ vs hl hv =>
        refine ⟨vs.getD i undef, hv i _ (by rw [List.getD_eq_getElem?_getD, List.getElem?_eq_getElem hi]; rfl), fun o ho w' hb => ?_⟩
        have hi' : i < vs.size := by omega
        simp [execOp, ho, hxe, Instr.extract, hi']
    · exact h.elim
  case h_11 x =>
    obtain ⟨xv, h, hx⟩ := aget_sound h
    split at h
    · refine ⟨_, h, fun cx τ F w a hg hr => ?_⟩
      have h1 := hx F τ w cx.n a hg hr.env
      generalize hxe : a.eval x = xval at h1
      refine ⟨xval, h1, fun o ho w' hb => ?_⟩
      cases h1
      simp [execOp, ho, hxe]
    · refine ⟨_, h, fun cx τ F w a hg hr => ?_⟩
      have h1 := hx F τ w cx.n a hg hr.env
      generalize hxe : a.eval x = xval at h1
      refine ⟨xval, h1, fun o ho w' hb => ?_⟩
      cases h1
      simp [execOp, ho, hxe]
    · exact h.elim
  case h_12 src dst x =>
    obtain ⟨xv, h, hx⟩ := aget_sound h
    split at h
    · rename_i k1 k2 k3 n hl1 hl2
      have o1 := ok_int (tabB_look hT hl1)
      have o2 := ok_int (tabB_look hT hl2)
      refine ⟨_, h, fun cx τ F w a hg hr => ⟨_, .val _ _, fun o ho w' hb => ?_⟩⟩
      have h1 := hx F τ w cx.n a hg hr.env
      generalize hxe : a.eval x = xval at h1
      cases h1
      simp [execOp, ho, hxe, convert, run_underlying o1, run_underlying o2, Conv.intToInt]
    · exact h.elim
  case h_13 t x lo hi =>
    obtain ⟨xv, h, hx⟩ := aget_sound h
    obtain ⟨lv, h, hlo⟩ := agetO_sound h
    obtain ⟨hv, h, hhi⟩ := agetO_sound h
    split at h
    · rename_i e esz by_ hl
      obtain ⟨y, hy, hs⟩ := slicev_sound hT hl h
      refine ⟨y, hy, fun cx τ F w a hg hr => ?_⟩
      obtain ⟨v, h1, h2⟩ := hs F τ w _ (lo.map a.eval) (hi.map a.eval) hg (hx F τ w cx.n a hg hr.env)
        (by rcases hlo F τ w cx.n a hg hr.env with ⟨rfl, rfl⟩ | ⟨xo, z, rfl, rfl, hr⟩
            · exact .inl ⟨rfl, rfl⟩
            · exact .inr ⟨_, _, rfl, rfl, hr⟩)
        (by rcases hhi F τ w cx.n a hg hr.env with ⟨rfl, rfl⟩ | ⟨xo, z, rfl, rfl, hr⟩
            · exact .inl ⟨rfl, rfl⟩
            · exact .inr ⟨_, _, rfl, rfl, hr⟩)
      exact ⟨v, h1, fun o ho w' hb => by simp only [execOp, ho, Option.map_none]; exact exec_value (h2 w')⟩
    · exact h.elim
  case h_14 as ts =>
    split at h
    · rename_i x t has hts
      obtain ⟨xv, h, hx⟩ := aget_sound h
      split at h
      · rename_i e esz by_ hl
        obtain ⟨fi, hu, _, _, _, _⟩ := ok_slice (tabB_look hT hl)
        have has' : as = #[x] := by cases as; simp_all
        have hts' : ts = #[t] := by cases ts; simp_all
        subst has' hts'
        have key : ∀ (A : Option Addr) (n c : Nat) (a : Act) (o : Oper), o.op = .call { callee := .builtin .len, args := #[x], argTypes := #[t] } → a.eval x = .slice A n c → ∀ w', (execOp a.eval o).run P w' = .ok (.value (.int .i64 n)) w' := by
          intro A n c a o ho hxe w'
          simp [execOp, ho, resolve, invoke, builtin, Builtin.len_, hxe, run_underlying hu, goInt]
        unfold lenv at h
        split at h
        · refine ⟨_, h, fun cx τ F w a hg hr => ⟨_, .val _ _, fun o ho w' hb => ?_⟩⟩
          have h1 := hx F τ w cx.n a hg hr.env
          generalize hxe : a.eval x = xval at h1
          cases h1
          exact key _ _ _ a o ho hxe w'
        · refine ⟨_, h, fun cx τ F w a hg hr => ⟨_, .val _ _, fun o ho w' hb => ?_⟩⟩
          have h1 := hx F τ w cx.n a hg hr.env
          generalize hxe : a.eval x = xval at h1
          cases h1
          exact key _ _ _ a o ho hxe w'
        · refine ⟨_, h, fun cx τ F w a hg hr => ⟨_, .val _ _, fun o ho w' hb => ?_⟩⟩
          have h1 := hx F τ w cx.n a hg hr.env
          generalize hxe : a.eval x = xval at h1
          cases h1
          exact key _ _ _ a o ho hxe w'
        · exact h.elim
      · exact h.elim
    · exact h.elim
  case h_15 => exact h.elim
end Go.Abs
