/- What is known of values, objects and memory; quiet operations, new objects and stores. No condition. -/
import Derived.WalkKit
import Derived.Below
import Derived.Deep.Quiet
import Derived.Laws.Rows
import Derived.Laws.Cells
import Derived.Laws.BytesString
set_option linter.unusedVariables false
set_option linter.unusedSimpArgs false
namespace Go.Abs
open Go Go.RowKit

/-- An own object's name: a number, and (in a family) which one. -/
structure Nm where
  id : Nat
  ix : List Nat
@[reducible] instance (n : Nat) : OfNat Nm n := ⟨⟨n, []⟩⟩

/-- What is known of a value. -/
inductive AV where
  | val (v : Value)
  | agg (cs : List AV)
  | tup (cs : List AV)
  | ro (sz n : Nat) (row : Nat → List AV)
  | ptr (cs : List AV)
  | obj (id : Nm) (off : Nat)
  | sl (id : Nm) (n : Nat)
  | so (id : Nm) (esz off n : Nat)
  | rp (id : Nm) (esz i off : Nat)
  | fn (f : Nat) (cs : List AV)
  | cond (g : Bool) (x : AV)
  | any

@[reducible] def AV.int (k : IntKind) (n : Int) : AV := .val (.int k n)
@[reducible] def AV.bool (b : Bool) : AV := .val (.bool b)
@[reducible] def AV.i64 (n : Int) : AV := .val (.int .i64 n)

/-- 'v' is as 'x' says, in the world w: 'F': blocks that are read and not written as long as this is relied on; 'τ': where the frame's own objects lie (a pointer to the first cell; a slice's header). What lies behind a read-only slice or pointer leads to no own object. -/
inductive Rep (F : Nat → Prop) (w : World) : (Nm → Option Value) → AV → Value → Prop
  | val (τ) (v : Value) : Rep F w τ (.val v) v
  | any (τ) (v : Value) : Rep F w τ .any v
  | condT (τ) (x : AV) (v : Value) : Rep F w τ x v → Rep F w τ (.cond true x) v
  | condF (τ) (x : AV) : Rep F w τ (.cond false x) undef
  | agg (τ) (cs : List AV) (vs : Array Value) : cs.length = vs.size → (∀ j c, cs[j]? = some c → Rep F w τ c (vs.getD j undef)) → Rep F w τ (.agg cs) (.agg vs)
  | tup (τ) (cs : List AV) (vs : Array Value) : cs.length = vs.size → (∀ j c, cs[j]? = some c → Rep F w τ c (vs.getD j undef)) → Rep F w τ (.tup cs) (.tuple vs)
  | ro (τ) (sz n : Nat) (row : Nat → List AV) (A : Option Addr) (c : Nat) (f : Nat → Nat → Value) : n ≤ c → c ≤ maxLen →
      (0 < n → ∃ b o, A = some ⟨b, o, none⟩ ∧ F b ∧ ∀ i j, i < n → j < sz → w.cell? ⟨b, o + i * sz + j, none⟩ = some (f i j)) →
      (∀ i, i < n → (row i).length = sz) → (∀ i j x, i < n → (row i)[j]? = some x → Rep F w (fun _ => none) x (f i j)) → Rep F w τ (.ro sz n row) (.slice A n c)
  | ptr (τ) (cs : List AV) (b o : Nat) (f : Nat → Value) : F b → (∀ j, j < cs.length → w.cell? ⟨b, o + j, none⟩ = some (f j)) →
      (∀ j x, cs[j]? = some x → Rep F w (fun _ => none) x (f j)) → Rep F w τ (.ptr cs) (.pointer (some ⟨b, o, none⟩))
  | fn (τ) (f : Nat) (cs : List AV) (vs : Array Value) : cs.length = vs.size → (∀ j c, cs[j]? = some c → Rep F w τ c (vs.getD j undef)) → Rep F w τ (.fn f cs) (.func (.func f) #[] vs)
  | obj (τ) (id : Nm) (off b : Nat) : τ id = some (.pointer (some ⟨b, 0, none⟩)) → Rep F w τ (.obj id off) (.pointer (some ⟨b, off, none⟩))
  | sl (τ) (id : Nm) (n : Nat) (A : Option Addr) (m c : Nat) : τ id = some (.slice A m c) → n ≤ m → m ≤ c → (0 < m → ∃ b, A = some ⟨b, 0, none⟩) → Rep F w τ (.sl id n) (.slice A n c)
  | so (τ) (id : Nm) (esz off n : Nat) (A : Option Addr) (m c : Nat) : τ id = some (.slice A m c) → off + n ≤ m → m ≤ c → (0 < m → ∃ b, A = some ⟨b, 0, none⟩) → Rep F w τ (.so id esz off n) (.slice (if c = off then A else A.map (·.add (off * esz))) n (c - off))
  | rp (τ) (id : Nm) (esz i off b m c : Nat) : τ id = some (.slice (some ⟨b, 0, none⟩) m c) → Rep F w τ (.rp id esz i off) (.pointer (some ⟨b, i * esz + off, none⟩))

theorem Rep.mono {F F' : Nat → Prop} {w w' : World} {τ τ' : Nm → Option Value} {x : AV} {v : Value} (h : Rep F w τ x v)
    (hF : ∀ k, F k → F' k) (hw : ∀ k, F k → w'.heap[k]? = w.heap[k]?) (hτ : ∀ id b, τ id = some b → τ' id = some b) : Rep F' w' τ' x v := by
  induction h generalizing τ' with
  | val τ v => exact .val _ v
  | any τ v => exact .any _ v
  | condT τ x v _ ih => exact .condT _ x v (ih hτ)
  | condF τ x => exact .condF _ x
  | agg τ cs vs hl _ ih => exact .agg _ cs vs hl fun j c hc => ih j c hc hτ
  | tup τ cs vs hl _ ih => exact .tup _ cs vs hl fun j c hc => ih j c hc hτ
  | fn τ f cs vs hl _ ih => exact .fn _ f cs vs hl fun j c hc => ih j c hc hτ
  | ro τ sz n row A c f h1 h2 h3 h4 _ ih =>
    refine .ro _ sz n row A c f h1 h2 (fun hn => ?_) h4 fun i j x hi hx => ih i j x hi hx (fun _ _ h => by cases h)
    obtain ⟨b, o, hA, hb, hc⟩ := h3 hn
    exact ⟨b, o, hA, hF b hb, fun i j hi hj => by rw [World.cell?_of_block (w := w) (hw b hb)]; exact hc i j hi hj⟩
  | ptr τ cs b o f h1 h2 _ ih =>
    exact .ptr _ cs b o f (hF b h1) (fun j hj => by rw [World.cell?_of_block (w := w) (hw b h1)]; exact h2 j hj) fun j x hx => ih j x hx (fun _ _ h => by cases h)
  | obj τ id off b hb => exact .obj _ id off b (hτ id _ hb)
  | sl τ id n A m c hb hn hm hA => exact .sl _ id n A m c (hτ id _ hb) hn hm hA
  | so τ id esz off n A m c hb hn hm hA => exact .so _ id esz off n A m c (hτ id _ hb) hn hm hA
  | rp τ id esz i off b m c hb => exact .rp _ id esz i off b m c (hτ id _ hb)

mutual
def AV.pureB : AV → Bool
  | .val _ | .any | .ro _ _ _ | .ptr _ => true
  | .cond _ x => AV.pureB x
  | .agg cs | .tup cs | .fn _ cs => AV.pureL cs
  | .obj _ _ | .sl _ _ | .so _ _ _ _ | .rp _ _ _ _ => false
def AV.pureL : List AV → Bool
  | [] => true
  | x :: r => AV.pureB x && AV.pureL r
end

theorem pureL_at : ∀ {cs : List AV}, AV.pureL cs = true → ∀ (j : Nat) (x : AV), cs[j]? = some x → x.pureB = true
  | [], _, j, x, h => by simp at h
  | c :: r, hp, j, x, h => by
    simp only [AV.pureL, Bool.and_eq_true] at hp
    cases j with
    | zero => simp at h; subst h; exact hp.1
    | succ j => exact pureL_at hp.2 j x (by simpa using h)

theorem Rep.pure {F : Nat → Prop} {w : World} {τ τ' : Nm → Option Value} {x : AV} {v : Value} (h : Rep F w τ x v) (hp : x.pureB = true) : Rep F w τ' x v := by
  induction h generalizing τ' with
  | val τ v => exact .val _ v
  | any τ v => exact .any _ v
  | condT τ x v _ ih => exact .condT _ x v (ih hp)
  | condF τ x => exact .condF _ x
  | agg τ cs vs hl _ ih => exact .agg _ cs vs hl fun j c hc => ih j c hc (pureL_at (by simpa [AV.pureB] using hp) j c hc)
  | tup τ cs vs hl _ ih => exact .tup _ cs vs hl fun j c hc => ih j c hc (pureL_at (by simpa [AV.pureB] using hp) j c hc)
  | fn τ f cs vs hl _ ih => exact .fn _ f cs vs hl fun j c hc => ih j c hc (pureL_at (by simpa [AV.pureB] using hp) j c hc)
  | ro τ sz n row A c f h1 h2 h3 h4 h5 _ => exact .ro _ sz n row A c f h1 h2 h3 h4 h5
  | ptr τ cs b o f h1 h2 h3 _ => exact .ptr _ cs b o f h1 h2 h3
  | obj τ id off b hb => simp [AV.pureB] at hp
  | sl τ id n A m c hb hn hm hA => simp [AV.pureB] at hp
  | so τ id esz off n A m c hb hn hm hA => simp [AV.pureB] at hp
  | rp τ id esz i off b m c hb => simp [AV.pureB] at hp

mutual
/-- It leads to such own objects alone. -/
def AV.refsB (p : Nm → Bool) : AV → Bool
  | .val _ | .any | .ro _ _ _ | .ptr _ => true
  | .cond _ x => AV.refsB p x
  | .agg cs | .tup cs | .fn _ cs => AV.refsL p cs
  | .obj id _ | .sl id _ | .so id _ _ _ | .rp id _ _ _ => p id
def AV.refsL (p : Nm → Bool) : List AV → Bool
  | [] => true
  | x :: r => AV.refsB p x && AV.refsL p r
end
mutual
def AV.refsP (p : Nm → Prop) : AV → Prop
  | .val _ | .any | .ro _ _ _ | .ptr _ => True
  | .cond _ x => AV.refsP p x
  | .agg cs | .tup cs | .fn _ cs => AV.refsPL p cs
  | .obj id _ | .sl id _ | .so id _ _ _ | .rp id _ _ _ => p id
def AV.refsPL (p : Nm → Prop) : List AV → Prop
  | [] => True
  | x :: r => AV.refsP p x ∧ AV.refsPL p r
end

theorem refsPL_at {p : Nm → Prop} : ∀ {cs : List AV}, AV.refsPL p cs → ∀ (j : Nat) (x : AV), cs[j]? = some x → AV.refsP p x
  | [], _, j, x, h => by simp at h
  | c :: r, hp, j, x, h => by
    cases j with
    | zero => simp at h; subst h; exact hp.1
    | succ j => exact refsPL_at hp.2 j x (by simpa using h)

mutual
theorem refsP_of {p : Nm → Bool} {q : Nm → Prop} (hq : ∀ k, p k = true → q k) : ∀ {x : AV}, AV.refsB p x = true → AV.refsP q x
  | .val _, _ => trivial
  | .any, _ => trivial
  | .ro _ _ _, _ => trivial
  | .ptr _, _ => trivial
  | .cond _ x, h => refsP_of hq (x := x) h
  | .agg cs, h => refsPL_of hq (cs := cs) h
  | .tup cs, h => refsPL_of hq (cs := cs) h
  | .fn _ cs, h => refsPL_of hq (cs := cs) h
  | .obj id _, h => hq id h
  | .sl id _, h => hq id h
  | .so id _ _ _, h => hq id h
  | .rp id _ _ _, h => hq id h
theorem refsPL_of {p : Nm → Bool} {q : Nm → Prop} (hq : ∀ k, p k = true → q k) : ∀ {cs : List AV}, AV.refsL p cs = true → AV.refsPL q cs
  | [], _ => trivial
  | x :: r, h => by
    simp only [AV.refsL, Bool.and_eq_true] at h
    exact ⟨refsP_of hq h.1, refsPL_of hq h.2⟩
end

theorem Rep.refs {F : Nat → Prop} {w : World} {τ τ' : Nm → Option Value} {x : AV} {v : Value} {p : Nm → Prop} (h : Rep F w τ x v) (hτ : ∀ id, p id → τ' id = τ id) (hp : AV.refsP p x) : Rep F w τ' x v := by
  induction h generalizing τ' with
  | val τ v => exact .val _ v
  | any τ v => exact .any _ v
  | condT τ x v _ ih => exact .condT _ x v (ih hτ hp)
  | condF τ x => exact .condF _ x
  | agg τ cs vs hl _ ih => exact .agg _ cs vs hl fun j c hc => ih j c hc hτ (refsPL_at hp j c hc)
  | tup τ cs vs hl _ ih => exact .tup _ cs vs hl fun j c hc => ih j c hc hτ (refsPL_at hp j c hc)
  | fn τ f cs vs hl _ ih => exact .fn _ f cs vs hl fun j c hc => ih j c hc hτ (refsPL_at hp j c hc)
  | ro τ sz n row A c f h1 h2 h3 h4 h5 _ => exact .ro _ sz n row A c f h1 h2 h3 h4 h5
  | ptr τ cs b o f h1 h2 h3 _ => exact .ptr _ cs b o f h1 h2 h3
  | obj τ id off b hb => exact .obj _ id off b (by rw [hτ id hp]; exact hb)
  | sl τ id n A m c hb hn hm hA => exact .sl _ id n A m c (by rw [hτ id hp]; exact hb) hn hm hA
  | so τ id esz off n A m c hb hn hm hA => exact .so _ id esz off n A m c (by rw [hτ id hp]; exact hb) hn hm hA
  | rp τ id esz i off b m c hb => exact .rp _ id esz i off b m c (by rw [hτ id hp]; exact hb)

theorem add_none (b o n : Nat) : (Addr.mk b o none).add n = ⟨b, o + n, none⟩ := by
  unfold Addr.add; split
  · subst_vars; rfl
  · rfl

def look {α : Type} : List (Nat × α) → Nat → Option α
  | [], _ => none
  | (k, v) :: r, n => match Nat.beq n k with
    | true => some v
    | false => look r n

theorem look_cons {α : Type} (k : Nat) (v : α) (r : List (Nat × α)) (n : Nat) : look ((k, v) :: r) n = if n = k then some v else look r n := by
  by_cases h : n = k
  · subst h; simp [look]
  · have : Nat.beq n k = false := by
      cases e : Nat.beq n k with
      | false => rfl
      | true => exact absurd (Nat.eq_of_beq_eq_true e) h
    simp [look, this, h]

/-- A test that comes out true. -/
def chk (b : Bool) (K : Prop) : Prop :=
  match b with
  | true => K
  | false => False
theorem chk_spec {b : Bool} {K : Prop} (h : chk b K) : b = true ∧ K := by
  cases b
  · exact h.elim
  · exact ⟨rfl, h⟩

/-- The leaves of a type whose values may be held against one another. -/
inductive Leaf where
  | int | bool | str
  deriving DecidableEq, Inhabited

def szOf (P : Program) (t : Nat) : Nat := ((P.info? t).map (·.size)).getD 0

def leavesF (P : Program) (g : Nat → Option (List Leaf)) : Nat → List Field → Option (List Leaf)
  | _, [] => some []
  | off, fd :: r => match g fd.type with
    | some l => if fd.offset = off ∧ fd.name ≠ "_" ∧ (P.info? fd.type).map (·.size) = some l.length then (leavesF P g (off + l.length) r).map (l ++ ·) else none
    | none => none
def repL (l : List Leaf) : Nat → List Leaf
  | 0 => []
  | n + 1 => l ++ repL l n
def leaves (P : Program) : Nat → Nat → Option (List Leaf)
  | 0, _ => none
  | f + 1, t => match P.underlying t with
    | some .bool => some [.bool]
    | some (.int _) => some [.int]
    | some .string => some [.str]
    | some (.struct fs) => if P.stoodInHeld t then none else match leavesF P (leaves P f) 0 fs.toList with
      | some l => if l.length = 0 then none else some l
      | none => none
    | some (.array n e) => match leaves P f e with
      | some l => if (P.info? e).map (·.size) = some l.length ∧ (repL l n).length ≠ 0 then some (repL l n) else none
      | none => none
    | _ => none

/-- What is known of a type. -/
inductive TI where
  | scalar
  | str
  | leaves (t : Nat) (lv : List Leaf)
  | bool
  | int (k : IntKind)
  | slice (e esz bytes : Nat)
  | struct (size : Nat) (offs : List (Nat × Nat))
  | array (n esz : Nat) (one : Bool)
  deriving Inhabited

def TI.okB (P : Program) (t : Nat) : TI → Bool
  | .scalar => (match P.underlying t with | some (.struct _) | some (.array _ _) | none => false | _ => true) && (match P.info? t with | some i => i.size == 1 | none => false)
  | .leaves t lv => (Go.Abs.leaves P 8 t == some lv) && !(P.eqGuardType P.depth t) && (match P.underlying t with | some (.struct _) | some (.array _ _) => true | _ => false)
  | .str => (match P.underlying t with | some .string => true | _ => false) && (match P.info? t with | some i => i.size == 1 | none => false)
  | .bool => (match P.underlying t with | some .bool => true | _ => false) && (match P.info? t with | some i => i.size == 1 | none => false)
  | .int k => (match P.underlying t with | some (.int k') => k' == k | _ => false) && (match P.info? t with | some i => i.size == 1 | none => false)
  | .slice e esz by_ => (match P.underlying t with | some (.slice e') => e' == e | _ => false) && (match P.info? e with | some i => i.size == esz && i.bytes == by_ | none => false) && decide (0 < esz) && (match P.info? t with | some i => i.size == 1 | none => false)
  | .struct size offs => (match P.underlying t with | some (.struct fs) => (fs.toList.map fun f => (f.offset, szOf P f.type)) == offs && fs.toList.all (fun f => (P.info? f.type).isSome) | _ => false) && (match P.info? t with | some i => i.size == size | none => false)
  | .array n esz one => (match P.underlying t with | some (.array n' e) => n' == n && (match P.info? e with | some i => i.size == esz | none => false) && (match P.underlying e with | some (.struct _) | some (.array _ _) | none => !one | _ => true) | _ => false) && (match P.info? t with | some i => i.size == n * esz | none => false)

def TI.one : TI → Bool
  | .scalar | .str | .bool | .int _ | .slice _ _ _ => true
  | _ => false
/-- How many cells. -/
def TI.aggSize : TI → Nat
  | .struct n _ => n
  | .array n e _ => n * e
  | _ => 1

def TI.szB : TI → Nat → Bool
  | .leaves _ _, _ => false
  | ti, n => Nat.beq ti.aggSize n
theorem szB_spec {ti : TI} {n : Nat} (h : ti.szB n = true) : (∀ t lv, ti ≠ .leaves t lv) ∧ ti.aggSize = n := by
  cases ti with
  | leaves t lv => cases h
  | _ => exact ⟨(fun _ _ e => (by cases e)), Nat.eq_of_beq_eq_true h⟩

def tabB (P : Program) (T : List (Nat × TI)) : Bool := T.all fun x => x.2.okB P x.1

def lookLeaves : List (Nat × TI) → Nat → Option (List Leaf)
  | [], _ => none
  | (_, .leaves t lv) :: r, n => match Nat.beq n t with
    | true => some lv
    | false => lookLeaves r n
  | _ :: r, n => lookLeaves r n
theorem tabB_leaves {P : Program} : ∀ {T : List (Nat × TI)}, tabB P T = true → ∀ {t : Nat} {lv : List Leaf}, lookLeaves T t = some lv → (TI.leaves t lv).okB P 0 = true
  | [], _, _, _, hl => by cases hl
  | (k, x) :: r, h, t, lv, hl => by
    simp only [tabB, List.all_cons, Bool.and_eq_true] at h
    cases x with
    | leaves t0 lv0 =>
      simp only [lookLeaves] at hl
      split at hl
      · rename_i e
        have := Nat.eq_of_beq_eq_true e; subst this
        injection hl with hl; subst hl; exact h.1
      · exact tabB_leaves h.2 hl
    | _ => exact tabB_leaves h.2 hl

theorem tabB_look {P : Program} {T : List (Nat × TI)} (h : tabB P T = true) {t : Nat} {ti : TI} (ht : look T t = some ti) : ti.okB P t = true := by
  induction T with
  | nil => cases ht
  | cons x r ih =>
    obtain ⟨k, v⟩ := x
    simp only [tabB, List.all_cons, Bool.and_eq_true] at h
    rw [look_cons] at ht
    split at ht
    · rename_i hk; injection ht with ht; subst ht; subst hk; exact h.1
    · exact ih h.2 ht
def zeroCells (P : Program) (t : Nat) : Option (List Value) := ((P.info? t).bind (·.zero)).map (·.cells.toList)
def ZOK (P : Program) : List (Nat × List Value) → Prop
  | [] => True
  | (t, vs) :: r => zeroCells P t = some vs ∧ ZOK P r
theorem ZOK.at_ {P : Program} : ∀ {Z : List (Nat × List Value)}, ZOK P Z → ∀ {t vs}, look Z t = some vs → zeroCells P t = some vs
  | [], _, _, _, h => by cases h
  | (k, vs') :: r, hz, t, vs, h => by
    rw [look_cons] at h
    split at h
    · rename_i e; subst e; injection h with h; subst h; exact hz.1
    · exact hz.2.at_ h

/-- The tables that go with a program. -/
structure Tabs where
  P : Program
  T : List (Nat × TI)
  Z : List (Nat × List Value)
  hT : tabB P T = true
  hZ : ZOK P Z

end Go.Abs

namespace Go.Abs
open Go Go.RowKit

/-- An object of the frame's own: a variable (a block of cells), or a row behind a slice (nil let in). -/
inductive HO where
  | cells (cs : List AV)
  | row (e esz n : Nat) (row : Nat → List AV)
  | rows (e esz n : Nat) (row : Nat → List AV)
  | fam (D : List Nat → Prop) (o : List Nat → HO)

def HO.flat : HO → Bool
  | .fam _ _ => false
  | _ => true

structure St where
  env : List (Nat × AV)
  heap : List (Nat × HO)

/-- The fixed part of a frame's surroundings: the program, how many slots, the blocks that may be read and are never written, the blocks of old that may be written, the world at the entry. -/
structure Cx where
  P : Program
  n : Nat
  F : Nat → Prop
  X : Nat → Prop
  w : World
  τ0 : Nm → Option Value

/-- The object of a name; whether a family has it. -/
def HO.at_ (o : HO) (ix : List Nat) : Option HO :=
  match o, ix with
  | .fam _ f, ix => some (f ix)
  | o, [] => some o
  | _, _ => none
def HO.in_ (o : HO) (ix : List Nat) : Prop :=
  match o with
  | .fam D _ => D ix
  | _ => True
def Has (h : List (Nat × HO)) (nm : Nm) (o : HO) : Prop := ∃ x, look h nm.id = some x ∧ x.at_ nm.ix = some o ∧ x.in_ nm.ix

theorem HO.at_flat {o : HO} (h : o.flat = true) {ix : List Nat} {y : HO} : o.at_ ix = some y ↔ ix = [] ∧ y = o := by
  cases o <;> cases ix <;> simp [HO.flat, HO.at_] at * <;> exact eq_comm
theorem HO.in_flat {o : HO} (h : o.flat = true) (ix : List Nat) : o.in_ ix := by
  cases o <;> simp [HO.flat, HO.in_] at *

theorem Has.of_look {h : List (Nat × HO)} {id : Nat} {o : HO} (hl : look h id = some o) (hf : o.flat = true) : Has h ⟨id, []⟩ o := ⟨o, hl, (HO.at_flat hf).2 ⟨rfl, rfl⟩, HO.in_flat hf _⟩
theorem Has.inj {h : List (Nat × HO)} {nm : Nm} {o o' : HO} (h1 : Has h nm o) (h2 : Has h nm o') : o = o' := by
  obtain ⟨x, a, b, _⟩ := h1
  obtain ⟨y, c, d, _⟩ := h2
  rw [a] at c; injection c with c; subst c
  rw [b] at d; injection d
theorem Has.isSome {h : List (Nat × HO)} {nm : Nm} {o : HO} (h1 : Has h nm o) : (look h nm.id).isSome = true := by
  obtain ⟨x, a, _⟩ := h1; rw [a]; rfl

/-- A new flat object. -/
theorem has_cons {h : List (Nat × HO)} {d : Nat} {o : HO} (hf : o.flat = true) {nm : Nm} {y : HO} : Has ((d, o) :: h) nm y ↔ (nm = ⟨d, []⟩ ∧ y = o) ∨ (nm.id ≠ d ∧ Has h nm y) := by
  obtain ⟨id, ix⟩ := nm
  unfold Has
  simp only [look_cons]
  by_cases e : id = d
  · subst e
    simp only [if_true, Option.some.injEq, Nm.mk.injEq, true_and, ne_eq, not_true, false_and, or_false]
    constructor
    · rintro ⟨x, rfl, h1, _⟩; exact (HO.at_flat hf).1 h1
    · rintro ⟨rfl, rfl⟩; exact ⟨_, rfl, (HO.at_flat hf).2 ⟨rfl, rfl⟩, HO.in_flat hf _⟩
  · simp [e]

theorem has_cons_ex {h : List (Nat × HO)} {d : Nat} {o : HO} (hf : o.flat = true) {nm : Nm} : (∃ y, Has ((d, o) :: h) nm y) ↔ nm = ⟨d, []⟩ ∨ (nm.id ≠ d ∧ ∃ y, Has h nm y) := by
  simp only [has_cons hf]
  constructor
  · rintro ⟨y, ⟨e, _⟩ | ⟨e, h⟩⟩
    · exact .inl e
    · exact .inr ⟨e, y, h⟩
  · rintro (e | ⟨e, y, h⟩)
    · exact ⟨o, .inl ⟨e, rfl⟩⟩
    · exact ⟨y, .inr ⟨e, h⟩⟩

def getO (g : Bool) (h : List (Nat × HO)) (nm : Nm) (K : HO → Prop) : Prop :=
  match look h nm.id with
  | some (.fam D f) => (g = true → D nm.ix) ∧ K (f nm.ix)
  | some o => (match nm.ix with
    | [] => K o
    | _ => False)
  | none => False
theorem getO_sound {g : Bool} {h : List (Nat × HO)} {nm : Nm} {K : HO → Prop} (hk : getO g h nm K) : ∃ o, K o ∧ (g = true → Has h nm o) := by
  obtain ⟨id, ix⟩ := nm
  unfold getO at hk
  split at hk
  · rename_i D f hl
    exact ⟨_, hk.2, fun hg => ⟨_, hl, rfl, hk.1 hg⟩⟩
  · rename_i o hne hl
    split at hk
    · rename_i e
      simp only at e; subst e
      have hf : o.flat = true := by
        cases o with
        | fam D f => exact absurd rfl (hne D f)
        | _ => rfl
      exact ⟨o, hk, fun _ => Has.of_look hl hf⟩
    · exact hk.elim
  · exact hk.elim

def hblk : Value → Option Nat
  | .pointer (some a) => some a.block
  | .slice (some a) _ _ => some a.block
  | _ => none

theorem hblk_none_slice : hblk (.slice none 0 0) = none := rfl
/-- Of the blocks of old none has turned but those of X. -/
structure Keeps (X : Nat → Prop) (w w' : World) : Prop where
  os : w'.os = w.os
  tape : w'.tape = w.tape
  output : w'.output = w.output
  size : w.heap.size ≤ w'.heap.size
  block : ∀ k, k < w.heap.size → ¬ X k → w'.heap[k]? = w.heap[k]?

theorem Keeps.refl (X : Nat → Prop) (w : World) : Keeps X w w := ⟨rfl, rfl, rfl, Nat.le_refl _, fun _ _ _ => rfl⟩
theorem Keeps.below {X : Nat → Prop} {w w' : World} (h : Keeps X w w') (hX : ∀ k, ¬ X k) : Below w.heap.size w w' := ⟨h.os, h.tape, h.output, h.size, fun k hk => h.block k hk (hX k)⟩
theorem Keeps.of_below {X : Nat → Prop} {w w' : World} (h : Below w.heap.size w w') : Keeps X w w' := ⟨h.os, h.tape, h.output, h.size, fun k hk _ => h.block k hk⟩
theorem Keeps.trans {X : Nat → Prop} {a b c : World} (h : Keeps X a b) (k : Keeps X b c) : Keeps X a c :=
  ⟨k.os.trans h.os, k.tape.trans h.tape, k.output.trans h.output, Nat.le_trans h.size k.size, fun i hi hx => (k.block i (Nat.lt_of_lt_of_le hi h.size) hx).trans (h.block i hi hx)⟩

def HOk (F : Nat → Prop) (w : World) (τ : Nm → Option Value) (o : HO) (v : Value) : Prop :=
  match o with
  | .cells cs => ∃ b c ty, v = .pointer (some ⟨b, 0, none⟩) ∧ w.heap[b]? = some (.cells c ty (0, 0)) ∧ c.size = cs.length ∧ ∀ j x, cs[j]? = some x → Rep F w τ x (c.getD j undef)
  | .row e esz n row => ∃ xs, w.ownsRow 0 e esz v n xs ∧ (∀ i, i < n → (row i).length = esz) ∧ ∀ (i j : Nat) (x : AV), i < n → (row i)[j]? = some x → Rep F w (fun _ => none) x (xs.getD (i * esz + j) undef)
  | .rows e esz n row => ∃ xs, w.ownsRow 0 e esz v n xs ∧ (∀ i, i < n → (row i).length = esz) ∧ ∀ (i j : Nat) (x : AV), i < n → (row i)[j]? = some x → Rep F w τ x (xs.getD (i * esz + j) undef)
  | .fam _ _ => False

structure RelW (cx : Cx) (τ : Nm → Option Value) (F : Nat → Prop) (s : St) (w : World) : Prop where
  keeps : Keeps cx.X cx.w w
  fz : ∀ k, F k → k < w.heap.size
  fne : ∀ k id v, F k → τ id = some v → hblk v ≠ some k
  fsub : ∀ k, F k → cx.F k ∨ cx.w.heap.size ≤ k ∨ cx.X k
  fsup : ∀ k, cx.F k → F k
  tlt : ∀ id v b, τ id = some v → hblk v = some b → (cx.w.heap.size ≤ b ∨ cx.X b) ∧ b < w.heap.size
  inj : ∀ id id' v v' b, τ id = some v → τ id' = some v' → hblk v = some b → hblk v' = some b → id = id'
  obj : ∀ nm o, Has s.heap nm o → ∃ v, τ nm = some v ∧ HOk F w τ o v
  dom : ∀ nm v, τ nm = some v → ∃ o, Has s.heap nm o
  old : ∀ nm v, 1000 ≤ nm.id → τ nm = some v → cx.τ0 nm = some v
  cxn : cx.n ≤ 1000

def EnvR (F : Nat → Prop) (τ : Nm → Option Value) (w : World) (n : Nat) (env : List (Nat × AV)) (tmps : Array Value) : Prop :=
  ∀ t x, look env t = some x → t < n ∧ Rep F w τ x (tmps.getD t undef)

structure RelA (cx : Cx) (τ : Nm → Option Value) (F : Nat → Prop) (s : St) (a : Act) (w : World) : Prop where
  wr : RelW cx τ F s w
  size : a.tmps.size = cx.n
  defers : a.defers = []
  env : EnvR F τ w cx.n s.env a.tmps

def Rel (cx : Cx) (s : St) (a : Act) (w : World) : Prop := ∃ τ F, RelA cx τ F s a w

theorem HOk.mono {F F' : Nat → Prop} {w w' : World} {τ τ' : Nm → Option Value} {o : HO} {v : Value} (h : HOk F w τ o v)
    (hF : ∀ k, F k → F' k) (hw : ∀ k, F k → w'.heap[k]? = w.heap[k]?) (hτ : ∀ id b, τ id = some b → τ' id = some b) (hv : ∀ b, hblk v = some b → w'.heap[b]? = w.heap[b]?) : HOk F' w' τ' o v := by
  cases o with
  | cells cs =>
    obtain ⟨b, c, ty, rfl, h3, h4, h5⟩ := h
    exact ⟨b, c, ty, rfl, (hv b rfl).trans h3, h4, fun j x hx => (h5 j x hx).mono hF hw hτ⟩
  | row e esz n row =>
    obtain ⟨xs, h1, h2, h3⟩ := h
    refine ⟨xs, ⟨h1.1, ?_⟩, h2, fun i j x hi hx => (h3 i j x hi hx).mono hF hw (fun _ _ h => by cases h)⟩
    rcases h1.2 with h | ⟨g, cap, cur, rfl, q1, q2, q3⟩
    · exact .inl h
    · exact .inr ⟨g, cap, cur, rfl, q1, (hv g rfl).trans q2, q3⟩
  | rows e esz n row =>
    obtain ⟨xs, h1, h2, h3⟩ := h
    refine ⟨xs, ⟨h1.1, ?_⟩, h2, fun i j x hi hx => (h3 i j x hi hx).mono hF hw hτ⟩
    rcases h1.2 with h | ⟨g, cap, cur, rfl, q1, q2, q3⟩
    · exact .inl h
    · exact .inr ⟨g, cap, cur, rfl, q1, (hv g rfl).trans q2, q3⟩
  | fam D f => exact h.elim

/-- No block of an old world has turned: what is known stays known. -/
theorem RelA.later {cx : Cx} {τ F s a w w'} (h : RelA cx τ F s a w) (hb : Below w.heap.size w w') : RelA cx τ F s a w' := by
  have hw : ∀ k, F k → w'.heap[k]? = w.heap[k]? := fun k hk => hb.block k (h.wr.fz k hk)
  refine ⟨⟨h.wr.keeps.trans (.of_below hb), fun k hk => Nat.lt_of_lt_of_le (h.wr.fz k hk) hb.size, h.wr.fne, h.wr.fsub, h.wr.fsup, fun id v b hv hk => ⟨(h.wr.tlt id v b hv hk).1, Nat.lt_of_lt_of_le (h.wr.tlt id v b hv hk).2 hb.size⟩, h.wr.inj, fun id o hl => ?_, h.wr.dom, h.wr.old, h.wr.cxn⟩, h.size, h.defers, fun t x ht => ⟨(h.env t x ht).1, (h.env t x ht).2.mono (fun _ h => h) hw (fun _ _ h => h)⟩⟩
  obtain ⟨v, h1, h2⟩ := h.wr.obj id o hl
  exact ⟨v, h1, h2.mono (fun _ h => h) hw (fun _ _ h => h) fun b hv => hb.block b (h.wr.tlt id v b h1 hv).2⟩

/-- More blocks that are never written. -/
theorem RelA.more {cx : Cx} {τ F F' s a w} (h : RelA cx τ F s a w) (hF : ∀ k, F k → F' k) (hz : ∀ k, F' k → k < w.heap.size) (hne : ∀ k id v, F' k → τ id = some v → hblk v ≠ some k) (hsub : ∀ k, F' k → cx.F k ∨ cx.w.heap.size ≤ k ∨ cx.X k) : RelA cx τ F' s a w := by
  refine ⟨⟨h.wr.keeps, hz, hne, hsub, fun k hk => hF k (h.wr.fsup k hk), h.wr.tlt, h.wr.inj, fun id o hl => ?_, h.wr.dom, h.wr.old, h.wr.cxn⟩, h.size, h.defers, fun t x ht => ⟨(h.env t x ht).1, (h.env t x ht).2.mono hF (fun _ _ => rfl) (fun _ _ h => h)⟩⟩
  obtain ⟨v, h1, h2⟩ := h.wr.obj id o hl
  exact ⟨v, h1, h2.mono hF (fun _ _ => rfl) (fun _ _ h => h) fun _ _ => rfl⟩

/-- A value for the destination. -/
theorem RelA.put {cx : Cx} {τ F s a w} (h : RelA cx τ F s a w) (d : Nat) (x : AV) (v : Value) (hr : Rep F w τ x v) (hd : d < cx.n) :
    RelA cx τ F { s with env := (d, x) :: s.env } (a.put (some d) v) w := by
  refine ⟨⟨h.wr.keeps, h.wr.fz, h.wr.fne, h.wr.fsub, h.wr.fsup, h.wr.tlt, h.wr.inj, h.wr.obj, h.wr.dom, h.wr.old, h.wr.cxn⟩, by simp [Act.put, h.size], by simp [Act.put, h.defers], fun t y ht => ?_⟩
  rw [look_cons] at ht
  split at ht
  · rename_i e; subst e
    injection ht with ht; subst ht
    refine ⟨hd, ?_⟩
    have : (a.tmps.setIfInBounds t v).getD t undef = v := by
      have ht : t < a.tmps.size := by rw [h.size]; exact hd
      simp [ht]
    simp only [Act.put]; rw [this]; exact hr
  · rename_i e
    obtain ⟨h1, h2⟩ := h.env t y ht
    refine ⟨h1, ?_⟩
    have : (a.tmps.setIfInBounds d v).getD t undef = a.tmps.getD t undef := by
      simp only [Array.getD_eq_getD_getElem?]
      rw [Array.getElem?_setIfInBounds_ne (by omega)]
    simp only [Act.put]; rw [this]; exact h2

/-- What a known value is under a guard. -/
def uncond (g : Bool) (x : AV) (K : AV → Prop) : Prop :=
  match x with
  | .cond g' y => (g = true → g' = true) ∧ K y
  | y => K y

def aget (g : Bool) (s : St) (x : Operand) (K : AV → Prop) : Prop :=
  match x with
  | .const v => K (.val v)
  | .func f => K (.val (.func (.func f) #[] #[]))
  | .global n => K (.val (.pointer (some ⟨n, 0, none⟩)))
  | .tmp t => match look s.env t with
    | some x => uncond g x K
    | none => False

theorem uncond_sound {g : Bool} {x : AV} {K : AV → Prop} (h : uncond g x K) : ∃ y, K y ∧ ∀ F τ w v, g = true → Rep F w τ x v → Rep F w τ y v := by
  cases x with
  | cond g' y =>
    obtain ⟨h1, h2⟩ := h
    refine ⟨y, h2, fun F τ w v hg hr => ?_⟩
    cases hr with
    | condT _ _ _ hr => exact hr
    | condF => exact absurd (h1 hg) (by simp)
  | _ => exact ⟨_, h, fun _ _ _ _ _ hr => hr⟩

theorem aget_sound {g : Bool} {s : St} {x : Operand} {K : AV → Prop} (h : aget g s x K) :
    ∃ y, K y ∧ ∀ F τ w n (a : Act), g = true → EnvR F τ w n s.env a.tmps → Rep F w τ y (a.eval x) := by
  cases x with
  | const v => exact ⟨_, h, fun F τ w n a _ _ => .val _ v⟩
  | func f => exact ⟨_, h, fun F τ w n a _ _ => .val _ _⟩
  | global m => exact ⟨_, h, fun F τ w n a _ _ => .val _ _⟩
  | tmp t =>
    simp only [aget] at h
    cases hl : look s.env t with
    | none => rw [hl] at h; exact h.elim
    | some x =>
      rw [hl] at h
      obtain ⟨y, hy, hs⟩ := uncond_sound h
      exact ⟨y, hy, fun F τ w n a hg he => hs F τ w _ hg (he t x hl).2⟩

def agets (g : Bool) (s : St) : List Operand → (List AV → Prop) → Prop
  | [], K => K []
  | x :: r, K => aget g s x fun y => agets g s r fun ys => K (y :: ys)

theorem agets_sound {g : Bool} {s : St} {xs : List Operand} : ∀ {K : List AV → Prop}, agets g s xs K →
    ∃ ys, K ys ∧ ys.length = xs.length ∧ ∀ F τ w n (a : Act), g = true → EnvR F τ w n s.env a.tmps → ∀ (j : Nat) (y : AV), (ys : List AV)[j]? = some y → ∃ x, xs[j]? = some x ∧ Rep F w τ y (a.eval x) := by
  induction xs with
  | nil => intro K h; exact ⟨[], h, rfl, fun _ _ _ _ _ _ _ j y hj => by simp at hj⟩
  | cons x r ih =>
    intro K h
    obtain ⟨y, hy, hs⟩ := aget_sound h
    obtain ⟨ys, hys, hl, hss⟩ := ih hy
    refine ⟨y :: ys, hys, by simp [hl], fun F τ w n a hg he j z hj => ?_⟩
    cases j with
    | zero => simp at hj; subst hj; exact ⟨x, rfl, hs F τ w n a hg he⟩
    | succ j => simp at hj; obtain ⟨x', h1, h2⟩ := hss F τ w n a hg he j z hj; exact ⟨x', by simpa using h1, h2⟩

end Go.Abs

namespace Go.Abs
open Go Go.RowKit

def binI (op : BinOp) (k : IntKind) (a b : Int) (K : AV → Prop) : Prop :=
  match op with
  | .add => K (.int k (k.wrap (a + b)))
  | .sub => K (.int k (k.wrap (a - b)))
  | .mul => K (.int k (k.wrap (a * b)))
  | .quo => b ≠ 0 ∧ K (.int k (k.wrap (a.tdiv b)))
  | .rem => b ≠ 0 ∧ K (.int k (a.tmod b))
  | .eql => K (.bool (a == b))
  | .neq => K (.bool (a != b))
  | .lss => K (.bool (decide (a < b)))
  | .leq => K (.bool (decide (a ≤ b)))
  | .gtr => K (.bool (decide (a > b)))
  | .geq => K (.bool (decide (a ≥ b)))
  | .and => K (.int k (bits .and k a b))
  | .or => K (.int k (bits .or k a b))
  | .xor => K (.int k (bits .xor k a b))
  | .andNot => K (.int k (bits .andNot k a b))
  | _ => False

def shiftI (op : BinOp) (k : IntKind) (a b : Int) (K : AV → Prop) : Prop :=
  match op with
  | .shl => 0 ≤ b ∧ K (.int k (k.wrap (a * 2 ^ min b.toNat k.bits)))
  | .shr => 0 ≤ b ∧ K (.int k (a.fdiv (2 ^ min b.toNat k.bits)))
  | _ => False

def BinOp.isShift : BinOp → Bool
  | .shl | .shr => true
  | _ => false

def ikB (a b : IntKind) : Bool := Nat.beq a.ctorIdx b.ctorIdx
theorem ikB_spec {a b : IntKind} (h : ikB a b = true) : a = b := by
  cases a <;> cases b <;> first | rfl | (exact absurd h (by decide))

def binB (op : BinOp) (a b : Bool) (K : AV → Prop) : Prop :=
  match op with
  | .eql => K (.bool (a == b))
  | .neq => K (.bool (a != b))
  | _ => False

/-- Value by value. -/
def cmpA : List Leaf → List AV → List AV → (Bool → Prop) → Prop
  | [], [], [], K => K true
  | .int :: lv, .val (.int k a) :: xs, .val (.int k' b) :: ys, K => chk (ikB k k') (cmpA lv xs ys fun q => K ((a == b) && q))
  | .bool :: lv, .val (.bool a) :: xs, .val (.bool b) :: ys, K => cmpA lv xs ys fun q => K ((a == b) && q)
  | .str :: lv, .val (.string a) :: xs, .val (.string b) :: ys, K => cmpA lv xs ys fun q => K ((a == b) && q)
  | _, _, _, _ => False

/-- A slice held against nil. -/
def nilv (op : BinOp) (b : Bool) (K : AV → Prop) : Prop :=
  match op with
  | .eql => K (.bool b)
  | .neq => K (.bool (!b))
  | _ => False
/-- Strings. -/
def strv (op : BinOp) (a b : ByteArray) (K : AV → Prop) : Prop :=
  match op with
  | .eql => K (.bool (a.toList == b.toList))
  | .neq => K (.bool (!(a.toList == b.toList)))
  | .add => a.size + b.size ≤ 4611686018427387904 ∧ K (.val (.string (a ++ b)))
  | _ => False
def bin (T : List (Nat × TI)) (g : Bool) (op : BinOp) (t : Nat) (x y : AV) (K : AV → Prop) : Prop :=
  match x, y with
  | .val (.bool a), .val (.bool b) => (match look T t with
    | some .bool => binB op a b K
    | _ => False)
  | .val (.int k a), .val (.int k' b) => match BinOp.isShift op with
    | true => shiftI op k a b (fun r => (g = true → 0 ≤ b) ∧ K r)
    | false => chk (ikB k k') (binI op k a b K)
  | .agg xs, .agg ys => (match lookLeaves T t with
    | some lv => cmpA lv xs ys fun q => match op with
      | .eql => K (.bool q)
      | .neq => K (.bool (!q))
      | _ => False
    | none => False)
  | .val (.string a), .val (.string b) => strv op a b K
  | .val (.slice A _ _), .val (.slice none _ _) => (match look T t with
    | some (.slice _ _ _) => nilv op A.isNone K
    | _ => False)
  | .ro _ n _, .val (.slice none _ _) => (match look T t with
    | some (.slice _ _ _) => (g = true → 0 < n) ∧ nilv op false K
    | _ => False)
  | .sl _ n, .val (.slice none _ _) => (match look T t with
    | some (.slice _ _ _) => (g = true → 0 < n) ∧ nilv op false K
    | _ => False)
  | _, _ => False

theorem binI_sound {op : BinOp} {k : IntKind} {a b : Int} {K : AV → Prop} {t : Nat} (hs : BinOp.isShift op = false) (h : binI op k a b K) :
    ∃ y, K y ∧ ∀ F τ w, ∃ v, Rep F w τ y v ∧ ∀ P w', (binOp op t (.int k a) (.int k b)).run P w' = .ok v w' := by
  cases op <;> first | (exact absurd hs (by decide)) | skip
  all_goals simp only [binI] at h
  all_goals clear hs
  case quo =>
    exact ⟨_, h.2, fun F τ w => ⟨_, .val _ _, fun P w' => by rw [binOp_quo]; simp [Op.intDiv, h.1]⟩⟩
  case rem =>
    exact ⟨_, h.2, fun F τ w => ⟨_, .val _ _, fun P w' => by rw [binOp_rem]; simp [Op.intDiv, h.1]⟩⟩
  all_goals exact ⟨_, h, fun F τ w => ⟨_, .val _ _, fun P w' => by simp [binOp_add, binOp_sub, binOp_mul, binOp_eql, binOp_neq, binOp_lss, binOp_leq, binOp_gtr, binOp_geq, binOp_and, binOp_or, binOp_xor, binOp_andNot, Op.intArith, intBits_and, intBits_or, intBits_xor, intBits_andNot]⟩⟩

theorem shiftI_sound {op : BinOp} {k k' : IntKind} {a b : Int} {K : AV → Prop} {t : Nat} (h : shiftI op k a b K) :
    ∃ y, K y ∧ ∀ F τ w, ∃ v, Rep F w τ y v ∧ ∀ P w', (binOp op t (.int k a) (.int k' b)).run P w' = .ok v w' := by
  cases op <;> simp only [shiftI] at h <;> first | exact h.elim | skip
  all_goals exact ⟨_, h.2, fun F τ w => ⟨_, .val _ _, fun P w' => by simp [binOp_shl, binOp_shr, Op.shift, Int.not_lt.2 h.1]⟩⟩

/-- The cells behind an address, from there on. -/
def cellsAt (g : Bool) (s : St) (x : AV) (K : List AV → Prop) : Prop :=
  match x with
  | .rp id esz i off => getO g s.heap id fun o => match o with
    | .row _ esz' n row => chk (Nat.beq esz esz') ((g = true → i < n) ∧ K ((row i).drop off))
    | .rows _ esz' n row => chk (Nat.beq esz esz') ((g = true → i < n) ∧ K ((row i).drop off))
    | _ => False
  | .ptr cs => K cs
  | .obj id off => getO g s.heap id fun o => match o with
    | .cells cs => K (cs.drop off)
    | _ => False
  | _ => False

def loadv (T : List (Nat × TI)) (g : Bool) (s : St) (t : Nat) (x : AV) (K : AV → Prop) : Prop :=
  cellsAt g s x fun cs => match look T t with
    | some (.struct size _) => chk (Nat.ble size cs.length) (K (.agg (cs.take size)))
    | some (.array n e _) => chk (Nat.ble (n * e) cs.length) (K (.agg (cs.take (n * e))))
    | some (.leaves _ _) => False
    | some _ => chk (Nat.blt 0 cs.length) (K (cs.headD .any))
    | none => False

def fieldv (T : List (Nat × TI)) (t f : Nat) (x : AV) (K : AV → Prop) : Prop :=
  match look T t with
  | some (.struct _ offs) => match offs[f]? with
    | some (o, sz) => chk (!Nat.beq sz 0) (match x with
      | .ptr cs => K (.ptr (cs.drop o))
      | .obj id off => K (.obj id (off + o))
      | .rp id esz i off => K (.rp id esz i (off + o))
      | _ => False)
    | none => False
  | _ => False

/-- Cells that are whole numbers of one kind. -/
def intsOf : List AV → Option (IntKind × List Int)
  | [] => none
  | .val (.int k a) :: r => (match r with
    | [] => some (k, [a])
    | r => match intsOf r with
      | some (k', l) => (match ikB k k' with
        | true => some (k, a :: l)
        | false => none)
      | none => none)
  | _ => none

def indexv (T : List (Nat × TI)) (g : Bool) (t : Nat) (x i : AV) (K : AV → Prop) : Prop :=
  match look T t, x, i with
  | some (.slice _ esz _), .sl id n, .val (.int _ i) => (g = true → 0 ≤ i ∧ i < (n : Int)) ∧ K (.rp id esz i.toNat 0)
  | some (.slice _ esz _), .ro sz n row, .val (.int _ i) => chk (Nat.beq sz esz) ((g = true → 0 ≤ i ∧ i < (n : Int)) ∧ K (.ptr (row i.toNat)))
  | some (.array n esz _), .ptr cs, .val (.int _ i) => (g = true → 0 ≤ i ∧ i < (n : Int)) ∧ (match Nat.beq esz 1 && Nat.ble n cs.length, intsOf (cs.take n) with
    | true, some (k, l) => K (.ptr [.val (.int k (l.getD i.toNat 0))])
    | _, _ => K (.ptr (cs.drop (i.toNat * esz))))
  | some (.array n esz _), .obj id off, .val (.int _ i) => (g = true → 0 ≤ i ∧ i < (n : Int)) ∧ K (.obj id (off + i.toNat * esz))
  | _, _, _ => False

def lenv (x : AV) (K : AV → Prop) : Prop :=
  match x with
  | .ro _ n _ => K (.i64 n)
  | .val (.slice _ n _) => K (.i64 n)
  | .sl _ n => K (.i64 n)
  | .so _ _ _ n => K (.i64 n)
  | _ => False

def unv (op : UnOp) (x : AV) (K : AV → Prop) : Prop :=
  match op, x with
  | .not, .val (.bool b) => K (.bool (!b))
  | .neg, .val (.int k n) => K (.int k (k.wrap (0 - n)))
  | _, _ => False

/-- A bound of a slice. -/
def boundv (x : Option AV) (dflt : Int) (K : Int → Prop) : Prop :=
  match x with
  | none => K dflt
  | some (.val (.int _ i)) => K i
  | _ => False

def slicev (g : Bool) (esz : Nat) (x : AV) (lo hi : Option AV) (K : AV → Prop) : Prop :=
  match x with
  | .ro sz n row => boundv lo 0 fun l => boundv hi n fun h => chk (Nat.beq sz esz) ((g = true → 0 ≤ l ∧ l ≤ h ∧ h ≤ (n : Int)) ∧ K (.ro sz (h - l).toNat (fun j => row (l.toNat + j))))
  | .sl id n => match lo with
    | none => boundv hi n fun h => (g = true → 0 ≤ h ∧ h ≤ (n : Int)) ∧ K (.sl id h.toNat)
    | some _ => boundv lo 0 fun l => boundv hi n fun h => (g = true → 0 ≤ l ∧ l ≤ h ∧ h ≤ (n : Int)) ∧ K (.so id esz l.toNat (h - l).toNat)
  | _ => False

/-- All of an array of old. -/
def arrSl (n esz : Nat) (x : AV) (lo hi : Option AV) (K : AV → Prop) : Prop :=
  match x, lo, hi with
  | .ptr cs, none, none => chk (Nat.ble (n * esz) cs.length) (chk (Nat.ble n 1048576) (K (.ro esz n fun i => (cs.drop (i * esz)).take esz)))
  | _, _, _ => False

def agetO (g : Bool) (s : St) (x : Option Operand) (K : Option AV → Prop) : Prop :=
  match x with
  | none => K none
  | some x => aget g s x fun y => K (some y)

/-- What a value's cells are. -/
def cellsV (x : AV) (K : List AV → Prop) : Prop :=
  match x with
  | .agg cs => K cs
  | .val v => chk v.oneCell' (K [.val v])
  | .ro sz n row => K [.ro sz n row]
  | .ptr cs => K [.ptr cs]
  | .obj id off => K [.obj id off]
  | .sl id n => K [.sl id n]
  | .so id esz off n => K [.so id esz off n]
  | .rp id esz i off => K [.rp id esz i off]
  | .fn f cs => K [.fn f cs]
  | _ => False

/-- The parts of a literal, laid over its zero. -/
def overlay (g : Bool) (s : St) (place : Nat → Option (Nat × Nat)) : List (Nat × Operand) → List AV → (List AV → Prop) → Prop
  | [], base, K => K base
  | (i, x) :: r, base, K => match place i with
    | some (o, sz) => aget g s x fun xv => cellsV xv fun cs => chk (Nat.beq cs.length sz) (chk (Nat.ble (o + sz) base.length) (overlay g s place r (base.take o ++ cs ++ base.drop (o + sz)) K))
    | none => False

def minmaxv (mx : Bool) (x y : AV) (K : AV → Prop) : Prop :=
  match x, y with
  | .val (.int k a), .val (.int k' b) => chk (ikB k k') (K (.int k (match mx with
    | true => max a b
    | false => min a b)))
  | _, _ => False

/-- A string of such bytes. -/
def bytesOf (ns : List Int) : ByteArray := ns.foldl (fun s n => s.push (UInt8.ofNat n.toNat)) ByteArray.empty
/-- One quiet operation: no call, nothing written. -/
def qop (B : Tabs) (g : Bool) (s : St) (op : Op) (K : AV → Prop) : Prop :=
  match op with
  | .move x | .assign x => aget g s x K
  | .pick c x y => aget g s c fun cv => match cv with
    | .val (.bool b) => aget (g && b) s x fun xv => aget (g && !b) s y fun yv => (match xv, yv with
      | .val (.bool p), .val (.bool q) => K (.bool (bif b then p else q))
      | _, _ => False)
    | _ => False
  | .load t x => aget g s x fun xv => loadv B.T g s t xv K
  | .binOp op t x y _ => aget g s x fun xv => aget g s y fun yv => bin B.T g op t xv yv K
  | .unOp op _ x => aget g s x fun xv => unv op xv K
  | .fieldAddr t x f => aget g s x fun xv => fieldv B.T t f xv K
  | .indexAddr t x i => aget g s x fun xv => aget g s i fun iv => indexv B.T g t xv iv K
  | .index t x i => aget g s x fun xv => aget g s i fun iv => (match look B.T t, xv, iv with
    | some (.array n esz one), .agg cs, .val (.int _ i) => chk (one && Nat.beq esz 1) ((g = true → 0 ≤ i ∧ i < (n : Int) ∧ i.toNat < cs.length) ∧ K (cs.getD i.toNat .any))
    | _, _, _ => False)
  | .extract x i => aget g s x fun xv => match xv with
    | .tup cs => chk (Nat.blt i cs.length) (K (cs.getD i .any))
    | _ => False
  | .nilCheck x => aget g s x fun xv => match xv with
    | .ptr cs => K (.ptr cs)
    | .obj id off => K (.obj id off)
    | .rp id esz i off => K (.rp id esz i off)
    | _ => False
  | .convert src dst x => aget g s x fun xv => match look B.T src, look B.T dst, xv with
    | some (.int _), some (.int k), .val (.int _ n) => K (.int k (k.wrap n))
    | some (.slice e _ _), some .str, .ro sz n row => chk (Nat.beq sz 1) (match look B.T e with
      | some (.int .u8) => ∃ h : Nat → Int, (g = true → ∀ i, i < n → row i = [.int .u8 (h i)]) ∧ K (.val (.string (bytesOf ((List.range n).map h))))
      | _ => False)
    | some (.slice e _ _), some .str, .val (.slice none _ _) => (match look B.T e with
      | some (.int .u8) => K (.val (.string .empty))
      | _ => False)
    | _, _, _ => False
  | .slice t x lo hi none => aget g s x fun xv => agetO g s lo fun lv => agetO g s hi fun hv => (match look B.T t with | some (.slice _ esz _) => slicev g esz xv lv hv K | some (.array n esz _) => arrSl n esz xv lv hv K | _ => False)
  | .build t parts => (match look B.T t, look B.Z t with
    | some (.struct _ offs), some zs => overlay g s (fun i => offs[i]?) parts.toList (zs.map .val) fun cs => K (.agg cs)
    | some (.array _ esz _), some zs => overlay g s (fun i => some (i * esz, esz)) parts.toList (zs.map .val) fun cs => K (.agg cs)
    | _, _ => False)
  | .makeFunc (.func f) first caps => (match first.toList with
    | [] => agets g s caps.toList fun cs => K (.fn f cs)
    | _ => False)
  | .call { callee := .builtin .min, args := as, argTypes := _ } => (match as.toList with
    | [x, y] => aget g s x fun xv => aget g s y fun yv => minmaxv false xv yv K
    | _ => False)
  | .call { callee := .builtin .max, args := as, argTypes := _ } => (match as.toList with
    | [x, y] => aget g s x fun xv => aget g s y fun yv => minmaxv true xv yv K
    | _ => False)
  | .call { callee := .builtin .len, args := as, argTypes := ts } => match as.toList, ts.toList with
    | [x], [t] => aget g s x fun xv => (match look B.T t with | some (.slice _ _ _) => lenv xv K | _ => False)
    | _, _ => False
  | _ => False

end Go.Abs

namespace Go.Abs
open Go Go.RowKit
set_option linter.unusedVariables false

def aggB : TypeDesc → Bool
  | .struct _ | .array _ _ => true
  | _ => false

def KnownAt (F : Nat → Prop) (τ : Nm → Option Value) (w : World) (cs : List AV) (b o : Nat) : Prop :=
  (F b ∨ ∃ nm v, τ nm = some v ∧ hblk v = some b) ∧ ∃ f : Nat → Value, (∀ j, j < cs.length → w.cell? ⟨b, o + j, none⟩ = some (f j)) ∧ ∀ j x, cs[j]? = some x → Rep F w τ x (f j)

/-- What is read lies as it lay. -/
def Same (F : Nat → Prop) (τ : Nm → Option Value) (w w' : World) : Prop := ∀ b, (F b ∨ ∃ nm v, τ nm = some v ∧ hblk v = some b) → w'.heap[b]? = w.heap[b]?
theorem Same.refl (F : Nat → Prop) (τ : Nm → Option Value) (w : World) : Same F τ w w := fun _ _ => rfl
theorem RelW.same {cx τ F s w w'} (h : RelW cx τ F s w) (hb : Below w.heap.size w w') : Same F τ w w' := fun b hk => by
  rcases hk with hk | ⟨nm, v, h1, h2⟩
  · exact hb.block b (h.fz b hk)
  · exact hb.block b (h.tlt nm v b h1 h2).2

theorem RelW.obj_known {cx τ F s w} (h : RelW cx τ F s w) {id : Nm} {cs : List AV} (hl : Has s.heap id (.cells cs)) (off : Nat) {b : Nat} (hb : τ id = some (.pointer (some ⟨b, 0, none⟩))) : KnownAt F τ w (cs.drop off) b off := by
  obtain ⟨v, h1, b', c, ty, rfl, h3, h4, h5⟩ := h.obj id _ hl
  rw [hb] at h1; injection h1 with h1; injection h1 with h1; injection h1 with h1; injection h1 with h1; subst h1
  refine ⟨.inr ⟨id, _, hb, rfl⟩, fun j => c.getD (off + j) undef, fun j hj => ?_, fun j x hx => ?_⟩
  · rw [cell_of_row _ _ _ _ _ _ h3]
    have : off + j < c.size := by rw [h4]; simp at hj; omega
    simp [this]
  · exact h5 (off + j) x (by rw [List.getElem?_drop] at hx; exact hx)

theorem row_known {F : Nat → Prop} {τ : Nm → Option Value} {w : World} {e esz n b m c : Nat} {row : Nat → List AV} (h : HOk F w τ (.row e esz n row) (.slice (some ⟨b, 0, none⟩) m c)) {i : Nat} (hi : i < n) (off : Nat) (hlt : F b ∨ ∃ nm v, τ nm = some v ∧ hblk v = some b) : KnownAt F τ w ((row i).drop off) b (i * esz + off) := by
  obtain ⟨xs, h1, h2, h3⟩ := h
  rcases h1.2 with ⟨h, _⟩ | ⟨g, cap, cur, hv, _, hg, hnc, hcm, hcs, htk⟩
  · cases h
  · simp only [Value.slice.injEq, Option.some.injEq, Addr.mk.injEq, and_true] at hv
    obtain ⟨rfl, rfl, rfl⟩ := hv
    have hbound : ∀ j, j < esz → i * esz + j < m * esz := fun j hj => by
      have : (i + 1) * esz ≤ m * esz := Nat.mul_le_mul_right _ hi
      rw [Nat.add_mul, Nat.one_mul] at this; omega
    refine ⟨hlt, fun j => xs.getD (i * esz + (off + j)) undef, fun j hj => ?_, fun j x hx => ?_⟩
    · have hj' : off + j < esz := by have := h2 i hi; simp at hj; omega
      have hb := hbound (off + j) hj'
      rw [cell_of_row _ _ _ _ _ _ hg, Nat.add_assoc]
      have hx : cur[i * esz + (off + j)]? = xs[i * esz + (off + j)]? := by
        rw [← htk, List.getElem?_take, if_pos hb]; simp
      rw [hx]
      have : i * esz + (off + j) < xs.length := by rw [h1.1]; exact hb
      simp [List.getElem?_eq_getElem this]
    · exact (h3 i (off + j) x hi (by rw [List.getElem?_drop] at hx; exact hx)).mono (fun _ h => h) (fun _ _ => rfl) (fun _ _ h => by cases h)

theorem rows_known {F : Nat → Prop} {τ : Nm → Option Value} {w : World} {e esz n b m c : Nat} {row : Nat → List AV} (h : HOk F w τ (.rows e esz n row) (.slice (some ⟨b, 0, none⟩) m c)) {i : Nat} (hi : i < n) (off : Nat) (hlt : F b ∨ ∃ nm v, τ nm = some v ∧ hblk v = some b) : KnownAt F τ w ((row i).drop off) b (i * esz + off) := by
  obtain ⟨xs, h1, h2, h3⟩ := h
  rcases h1.2 with ⟨h, _⟩ | ⟨g, cap, cur, hv, _, hg, hnc, hcm, hcs, htk⟩
  · cases h
  · simp only [Value.slice.injEq, Option.some.injEq, Addr.mk.injEq, and_true] at hv
    obtain ⟨rfl, rfl, rfl⟩ := hv
    have hbound : ∀ j, j < esz → i * esz + j < m * esz := fun j hj => by
      have : (i + 1) * esz ≤ m * esz := Nat.mul_le_mul_right _ hi
      rw [Nat.add_mul, Nat.one_mul] at this; omega
    refine ⟨hlt, fun j => xs.getD (i * esz + (off + j)) undef, fun j hj => ?_, fun j x hx => ?_⟩
    · have hj' : off + j < esz := by have := h2 i hi; simp at hj; omega
      have hb := hbound (off + j) hj'
      rw [cell_of_row _ _ _ _ _ _ hg, Nat.add_assoc]
      have hx : cur[i * esz + (off + j)]? = xs[i * esz + (off + j)]? := by
        rw [← htk, List.getElem?_take, if_pos hb]; simp
      rw [hx]
      have : i * esz + (off + j) < xs.length := by rw [h1.1]; exact hb
      simp [List.getElem?_eq_getElem this]
    · exact h3 i (off + j) x hi (by rw [List.getElem?_drop] at hx; exact hx)

theorem cellsAt_sound {g : Bool} {s : St} {x : AV} {K : List AV → Prop} (h : cellsAt g s x K) :
    ∃ cs, K cs ∧ ∀ cx τ F w u, g = true → RelW cx τ F s w → Rep F w τ x u → ∃ b o, u = .pointer (some ⟨b, o, none⟩) ∧ KnownAt F τ w cs b o := by
  unfold cellsAt at h
  split at h
  · rename_i id esz i off
    obtain ⟨o, h, hH⟩ := getO_sound h
    split at h
    · rename_i e esz' n row
      obtain ⟨hz, hg, h2⟩ := chk_spec h
      have hzz := Nat.eq_of_beq_eq_true hz
      subst hzz
      refine ⟨_, h2, fun cx τ F w u hgt hw hr => ?_⟩
      cases hr with
      | rp _ _ _ _ _ b m c hb =>
        obtain ⟨v, h1, ho⟩ := hw.obj id _ (hH hgt)
        rw [hb] at h1; injection h1 with h1; subst h1
        exact ⟨b, _, rfl, row_known ho (hg hgt) off (.inr ⟨id, _, hb, rfl⟩)⟩
    · rename_i e esz' n row
      obtain ⟨hz, hg, h2⟩ := chk_spec h
      have hzz := Nat.eq_of_beq_eq_true hz
      subst hzz
      refine ⟨_, h2, fun cx τ F w u hgt hw hr => ?_⟩
      cases hr with
      | rp _ _ _ _ _ b m c hb =>
        obtain ⟨v, h1, ho⟩ := hw.obj id _ (hH hgt)
        rw [hb] at h1; injection h1 with h1; subst h1
        exact ⟨b, _, rfl, rows_known ho (hg hgt) off (.inr ⟨id, _, hb, rfl⟩)⟩
    · exact h.elim
  · rename_i cs
    refine ⟨cs, h, fun cx τ F w u hgt hw hr => ?_⟩
    cases hr with
    | ptr _ _ b o f h1 h2 h3 => exact ⟨b, o, rfl, .inl h1, f, h2, fun j x hx => (h3 j x hx).mono (fun _ h => h) (fun _ _ => rfl) (fun _ _ h => by cases h)⟩
  · rename_i id off
    obtain ⟨o, h, hH⟩ := getO_sound h
    split at h
    · rename_i cs
      refine ⟨_, h, fun cx τ F w u hgt hw hr => ?_⟩
      cases hr with
      | obj _ _ _ b hb => exact ⟨b, off, rfl, hw.obj_known (hH hgt) off hb⟩
    · exact h.elim
  · exact h.elim

theorem KnownAt.cell {F τ w w' cs b o} (h : KnownAt F τ w cs b o) (hb : Same F τ w w') : ∃ f : Nat → Value, (∀ j, j < cs.length → w'.cell? ⟨b, o + j, none⟩ = some (f j)) ∧ ∀ j x, cs[j]? = some x → Rep F w τ x (f j) := by
  obtain ⟨h1, f, h2, h3⟩ := h
  exact ⟨f, fun j hj => by rw [World.cell?_of_block (w := w) (hb b h1)]; exact h2 j hj, h3⟩

theorem isAgg_run {P : Program} {t : Nat} {d : TypeDesc} (h : P.underlying t = some d) (w : World) : (isAgg t).run P w = .ok (aggB d) w := by
  simp only [isAgg, Sem.run_bind, run_underlying h, Result.andThen_ok]
  cases d <;> rfl

theorem sizeOf_run {P : Program} {t : Nat} {i : TypeInfo} (h : P.info? t = some i) (w : World) : (sizeOf t).run P w = .ok i.size w := by
  simp [sizeOf, typeInfo, h]

theorem ok_struct {P : Program} {t size : Nat} {offs : List (Nat × Nat)} (h : (TI.struct size offs).okB P t = true) :
    ∃ fs i, P.underlying t = some (.struct fs) ∧ P.info? t = some i ∧ i.size = size ∧ (fs.toList.map fun f => (f.offset, szOf P f.type)) = offs ∧ ∀ f ∈ fs.toList, (P.info? f.type).isSome = true := by
  simp only [TI.okB, Bool.and_eq_true] at h
  obtain ⟨h1, h2⟩ := h
  split at h1
  · rename_i fs hu
    split at h2
    · rename_i i hi
      simp only [Bool.and_eq_true, beq_iff_eq, List.all_eq_true] at h1 h2
      exact ⟨fs, i, hu, hi, h2, h1.1, h1.2⟩
    · cases h2
  · cases h1

theorem ok_array {P : Program} {t n esz : Nat} {one : Bool} (h : (TI.array n esz one).okB P t = true) :
    ∃ e i j, P.underlying t = some (.array n e) ∧ P.info? e = some i ∧ i.size = esz ∧ P.info? t = some j ∧ j.size = n * esz ∧ (one = true → ∃ d, P.underlying e = some d ∧ aggB d = false) := by
  simp only [TI.okB, Bool.and_eq_true] at h
  obtain ⟨h1, h2⟩ := h
  split at h1
  · rename_i n' e hu
    split at h2
    · rename_i j hj
      simp only [Bool.and_eq_true, beq_iff_eq] at h1 h2
      obtain ⟨⟨rfl, h1⟩, h3⟩ := h1
      split at h1
      · rename_i i hi
        refine ⟨e, i, j, hu, hi, by simpa using h1, hj, h2, fun ho => ?_⟩
        subst ho
        cases hue : P.underlying e with
        | none => rw [hue] at h3; simp at h3
        | some d => refine ⟨d, rfl, ?_⟩; rw [hue] at h3; cases d <;> simp_all [aggB]
      · cases h1
    · cases h2
  · cases h1

theorem ok_slice {P : Program} {t e esz by_ : Nat} (h : (TI.slice e esz by_).okB P t = true) : ∃ i, P.underlying t = some (.slice e) ∧ P.info? e = some i ∧ i.size = esz ∧ 0 < esz ∧ i.bytes = by_ := by
  simp only [TI.okB, Bool.and_eq_true] at h
  obtain ⟨⟨⟨h1, h2⟩, h3⟩, _⟩ := h
  split at h1
  · rename_i e' hu
    split at h2
    · rename_i i hi
      simp only [beq_iff_eq, Bool.and_eq_true] at h1 h2
      subst h1
      exact ⟨i, hu, hi, h2.1, by simpa using h3, h2.2⟩
    · cases h2
  · cases h1

theorem ok_int {P : Program} {t : Nat} {k : IntKind} (h : (TI.int k).okB P t = true) : P.underlying t = some (.int k) := by
  simp only [TI.okB, Bool.and_eq_true] at h
  obtain ⟨h1, _⟩ := h
  split at h1
  · rename_i k' hu; simp only [beq_iff_eq] at h1; subst h1; exact hu
  · cases h1

theorem ok_bool {P : Program} {t : Nat} (h : TI.bool.okB P t = true) : P.underlying t = some .bool := by
  simp only [TI.okB, Bool.and_eq_true] at h
  obtain ⟨h1, _⟩ := h
  split at h1
  · assumption
  · cases h1

theorem ok_one {P : Program} {t : Nat} {ti : TI} (ho : ti.one = true) (h : ti.okB P t = true) : ∃ d, P.underlying t = some d ∧ aggB d = false := by
  cases ti with
  | scalar =>
    simp only [TI.okB, Bool.and_eq_true] at h
    cases hu : P.underlying t with
    | none => rw [hu] at h; simp at h
    | some d => refine ⟨d, rfl, ?_⟩; rw [hu] at h; cases d <;> simp_all [aggB]
  | str =>
    simp only [TI.okB, Bool.and_eq_true] at h
    obtain ⟨h, _⟩ := h
    split at h
    · rename_i hu; exact ⟨_, hu, rfl⟩
    · cases h
  | int k => exact ⟨_, ok_int h, rfl⟩
  | bool => exact ⟨_, ok_bool h, rfl⟩
  | slice e n _ => obtain ⟨i, h1, _⟩ := ok_slice h; exact ⟨_, h1, rfl⟩
  | struct => simp [TI.one] at ho
  | array => simp [TI.one] at ho
  | leaves => simp [TI.one] at ho

/-- A whole variable of several cells. -/
theorem load_agg {P : Program} {t n : Nat} {d : TypeDesc} {i : TypeInfo} (hd : P.underlying t = some d) (ha : aggB d = true) (hi : P.info? t = some i) (hn : i.size = n)
    {w' : World} {b o : Nat} {f : Nat → Value} (hc : ∀ j, j < n → w'.cell? ⟨b, o + j, none⟩ = some (f j)) :
    (Instr.loadAt t (.pointer (some ⟨b, o, none⟩))).run P w' = .ok (.agg ((List.range n).map f).toArray) w' := by
  simp only [Instr.loadAt, Instr.sureAddr, Sem.run_bind, Sem.run_pure, Result.andThen_ok, loadVar, isAgg_run hd, ha, if_true, sizeOf_run hi, hn]
  rw [run_loadCells w' _ n f (fun j hj => by rw [add_none]; exact hc j hj)]
  rfl

theorem load_one {P : Program} {t : Nat} {d : TypeDesc} (hd : P.underlying t = some d) (ha : aggB d = false)
    {w' : World} {a : Addr} {v : Value} (hc : w'.cell? a = some v) : (Instr.loadAt t (.pointer (some a))).run P w' = .ok v w' := by
  simp only [Instr.loadAt, Instr.sureAddr, Sem.run_bind, Sem.run_pure, Result.andThen_ok, loadVar, isAgg_run hd, ha]
  simp [hc]

theorem rep_take {F τ w} {cs : List AV} {n : Nat} {f : Nat → Value} (hn : n ≤ cs.length) (h : ∀ j x, cs[j]? = some x → Rep F w τ x (f j)) : Rep F w τ (.agg (cs.take n)) (.agg ((List.range n).map f).toArray) := by
  refine .agg _ _ _ (by simp; omega) fun j x hx => ?_
  rw [List.getElem?_take] at hx
  split at hx
  · rename_i hj
    have := h j x hx
    have e : (((List.range n).map f).toArray).getD j undef = f j := by simp [hj]
    rw [e]; exact this
  · cases hx

theorem loadv_sound {P : Program} {T : List (Nat × TI)} (hT : tabB P T = true) {g : Bool} {s : St} {t : Nat} {x : AV} {K : AV → Prop} (h : loadv T g s t x K) :
    ∃ y, K y ∧ ∀ cx τ F w u, g = true → RelW cx τ F s w → Rep F w τ x u → ∃ v, Rep F w τ y v ∧ ∀ w', Same F τ w w' → (Instr.loadAt t u).run P w' = .ok v w' := by
  unfold loadv at h
  obtain ⟨cs, h, hs⟩ := cellsAt_sound h
  cases hl : look T t with
  | none => rw [hl] at h; exact h.elim
  | some ti =>
    rw [hl] at h
    have hok := tabB_look hT hl
    have one : ti.one = true → chk (Nat.blt 0 cs.length) (K (cs.headD .any)) → ∃ y, K y ∧ ∀ cx τ F w u, g = true → RelW cx τ F s w → Rep F w τ x u → ∃ v, Rep F w τ y v ∧ ∀ w', Same F τ w w' → (Instr.loadAt t u).run P w' = .ok v w' := by
      intro ho hh
      obtain ⟨h1, h2⟩ := chk_spec hh
      have h1 : 0 < cs.length := by simpa [Nat.blt_eq] using h1
      refine ⟨_, h2, fun cx τ F w u hg hw hr => ?_⟩
      obtain ⟨b, o, rfl, hk⟩ := hs cx τ F w u hg hw hr
      obtain ⟨d, hd, ha⟩ := ok_one ho hok
      have hlen := h1
      obtain ⟨hlt, f, hf, hrep⟩ := hk
      refine ⟨f 0, ?_, fun w' hb => load_one hd ha ?_⟩
      · cases cs with
        | nil => simp at hlen
        | cons c r => exact hrep 0 c rfl
      · rw [World.cell?_of_block (w := w) (hb b hlt)]; simpa using hf 0 hlen
    cases ti with
    | leaves t0 lv => exact h.elim
    | scalar => exact one rfl h
    | int k => exact one rfl h
    | str => exact one rfl h
    | bool => exact one rfl h
    | slice e n _ => exact one rfl h
    | struct size offs =>
      obtain ⟨h1, h2⟩ := chk_spec h
      have h1 := Nat.le_of_ble_eq_true h1
      obtain ⟨fs, i, hu, hi, hsz, _⟩ := ok_struct hok
      refine ⟨_, h2, fun cx τ F w u hg hw hr => ?_⟩
      obtain ⟨b, o, rfl, hk⟩ := hs cx τ F w u hg hw hr
      obtain ⟨hlt, f, hf, hrep⟩ := hk
      refine ⟨_, rep_take h1 hrep, fun w' hb => load_agg hu rfl hi hsz fun j hj => ?_⟩
      rw [World.cell?_of_block (w := w) (hb b hlt)]; exact hf j (Nat.lt_of_lt_of_le hj h1)
    | array n e _ =>
      obtain ⟨h1, h2⟩ := chk_spec h
      have h1 := Nat.le_of_ble_eq_true h1
      obtain ⟨e', i, j', hu, _, _, hi, hsz, _⟩ := ok_array hok
      refine ⟨_, h2, fun cx τ F w u hg hw hr => ?_⟩
      obtain ⟨b, o, rfl, hk⟩ := hs cx τ F w u hg hw hr
      obtain ⟨hlt, f, hf, hrep⟩ := hk
      refine ⟨_, rep_take h1 hrep, fun w' hb => load_agg hu rfl hi hsz fun j hj => ?_⟩
      rw [World.cell?_of_block (w := w) (hb b hlt)]; exact hf j (Nat.lt_of_lt_of_le hj h1)

theorem rep_ptr_drop {F τ w} {cs : List AV} {u : Value} (h : Rep F w τ (.ptr cs) u) (k : Nat) : ∃ b o, u = .pointer (some ⟨b, o, none⟩) ∧ Rep F w τ (.ptr (cs.drop k)) (.pointer (some ⟨b, o + k, none⟩)) := by
  cases h with
  | ptr _ _ b o f h1 h2 h3 =>
    refine ⟨b, o, rfl, .ptr _ _ b (o + k) (fun j => f (k + j)) h1 (fun j hj => ?_) (fun j x hx => ?_)⟩
    · rw [Nat.add_assoc]; exact h2 (k + j) (by simp at hj; omega)
    · exact h3 (k + j) x (by rw [List.getElem?_drop] at hx; exact hx)

theorem fieldAt_run {P : Program} {t size f o sz : Nat} {offs : List (Nat × Nat)} (hok : (TI.struct size offs).okB P t = true) (hf : offs[f]? = some (o, sz)) (hz : sz ≠ 0) (b off : Nat) (w : World) :
    (Instr.fieldAt t (.pointer (some ⟨b, off, none⟩)) f).run P w = .ok (.pointer (some ⟨b, off + o, none⟩)) w := by
  obtain ⟨fs, i, hu, _, _, hoffs, hsome⟩ := ok_struct hok
  subst hoffs
  rw [List.getElem?_map] at hf
  cases hfs : fs.toList[f]? with
  | none => rw [hfs] at hf; cases hf
  | some fd =>
    rw [hfs] at hf
    simp only [Option.map_some, Option.some.injEq, Prod.mk.injEq] at hf
    obtain ⟨h1, h2⟩ := hf
    have hmem : fd ∈ fs.toList := List.mem_of_getElem? hfs
    have hi := hsome fd hmem
    obtain ⟨fi, hfi⟩ := Option.isSome_iff_exists.1 hi
    have hfa : fs[f]? = some fd := by simpa using hfs
    have hsz : fi.size = sz := by rw [← h2]; simp [szOf, hfi]
    have hne : fi.size ≠ 0 := by rw [hsz]; exact hz
    simp only [Instr.fieldAt, Sem.run_bind, run_underlying hu, Result.andThen_ok, hfa, Instr.sureAddr, Sem.run_pure, fieldPlace, sizeOf_run hfi, hne, if_false]
    simp [add_none, h1]

theorem fieldv_sound {P : Program} {T : List (Nat × TI)} (hT : tabB P T = true) {t f : Nat} {x : AV} {K : AV → Prop} (h : fieldv T t f x K) :
    ∃ y, K y ∧ ∀ F τ w u, Rep F w τ x u → ∃ v, Rep F w τ y v ∧ ∀ w', (Instr.fieldAt t u f).run P w' = .ok v w' := by
  unfold fieldv at h
  split at h
  · rename_i size offs hl
    have hok := tabB_look hT hl
    split at h
    · rename_i o sz hf
      obtain ⟨hz, h⟩ := chk_spec h
      have hz : sz ≠ 0 := by rintro rfl; exact absurd hz (by decide)
      split at h
      · refine ⟨_, h, fun F τ w u hr => ?_⟩
        obtain ⟨b, o', rfl, hr'⟩ := rep_ptr_drop hr o
        exact ⟨_, hr', fun w' => fieldAt_run hok hf hz b o' w'⟩
      · refine ⟨_, h, fun F τ w u hr => ?_⟩
        cases hr with
        | obj _ _ _ b hb => exact ⟨_, .obj _ _ _ b hb, fun w' => fieldAt_run hok hf hz b _ w'⟩
      · refine ⟨_, h, fun F τ w u hr => ?_⟩
        cases hr with
        | rp _ _ _ _ _ b m c hb => exact ⟨_, .rp _ _ _ _ _ b m c hb, fun w' => by rw [fieldAt_run hok hf hz b _ w', Nat.add_assoc]⟩
      · exact h.elim
    · exact h.elim
  · exact h.elim

theorem intsOf_get : ∀ {cs : List AV} {k : IntKind} {l : List Int}, intsOf cs = some (k, l) → l.length = cs.length ∧ ∀ i, i < cs.length → cs[i]? = some (.val (.int k (l.getD i 0)))
  | [], k, l, h => by simp [intsOf] at h
  | x :: r, k, l, h => by
    unfold intsOf at h
    split at h
    · rename_i heq; cases heq
    · rename_i k1 a r1 heq
      injection heq with e1 e2; subst e1 e2
      split at h
      · simp only [Option.some.injEq, Prod.mk.injEq] at h
        obtain ⟨rfl, rfl⟩ := h
        refine ⟨rfl, fun i hi => ?_⟩
        have : i = 0 := by simp at hi; omega
        subst this; rfl
      · split at h
        · rename_i k' l' hr
          split at h
          · rename_i hk
            have := ikB_spec hk; subst this
            simp only [Option.some.injEq, Prod.mk.injEq] at h
            obtain ⟨rfl, rfl⟩ := h
            obtain ⟨h1, h2⟩ := intsOf_get hr
            refine ⟨by simp [h1], fun i hi => ?_⟩
            cases i with
            | zero => rfl
            | succ i => simpa using h2 i (by simpa using hi)
          · cases h
        · cases h
    · cases h

theorem indexv_sound {P : Program} {T : List (Nat × TI)} (hT : tabB P T = true) {g : Bool} {t : Nat} {x i : AV} {K : AV → Prop} (h : indexv T g t x i K) :
    ∃ y, K y ∧ ∀ F τ w u v, g = true → Rep F w τ x u → Rep F w τ i v → ∃ r, Rep F w τ y r ∧ ∀ w', (Instr.indexAt t u v).run P w' = .ok r w' := by
  unfold indexv at h
  split at h
  · rename_i e esz by_ id n k i hl
    have hok := tabB_look hT hl
    obtain ⟨fi, hu, hi, hsz, hpos, _⟩ := ok_slice hok
    obtain ⟨hg, h⟩ := h
    refine ⟨_, h, fun F τ w u v hgt hr hv => ?_⟩
    obtain ⟨h0, h1⟩ := hg hgt
    cases hv
    cases hr with
    | sl _ _ _ A m c hb hn hm hA =>
      obtain ⟨b, rfl⟩ := hA (by omega)
      refine ⟨_, .rp _ id esz i.toNat 0 b m c hb, fun w' => ?_⟩
      simp [Instr.indexAt, run_underlying hu, asIntOf, h0, h1, sizeOf_run hi, hsz, add_none]
  · rename_i e esz by_ sz n row k i hl
    have hok := tabB_look hT hl
    obtain ⟨fi, hu, hi, hsz, hpos, _⟩ := ok_slice hok
    obtain ⟨hsz', hg, h2⟩ := chk_spec h
    have hszz := Nat.eq_of_beq_eq_true hsz'
    subst hszz
    refine ⟨_, h2, fun F τ w u v hgt hr hv => ?_⟩
    obtain ⟨h0, h1⟩ := hg hgt
    cases hv
    cases hr with
    | ro _ _ _ _ A c f q1 q2 q3 q4 q5 =>
      obtain ⟨b, o, rfl, hb, hc⟩ := q3 (by omega)
      have hin : i.toNat < n := by omega
      refine ⟨_, .ptr _ (row i.toNat) b (o + i.toNat * sz) (f i.toNat) hb (fun j hj => hc i.toNat j hin (by rw [q4 _ hin] at hj; exact hj)) (fun j x hx => q5 i.toNat j x hin hx), fun w' => ?_⟩
      simp [Instr.indexAt, run_underlying hu, asIntOf, h0, h1, sizeOf_run hi, hsz, add_none]
  · rename_i n esz _ cs k i hl
    have hok := tabB_look hT hl
    obtain ⟨e, fi, _, hu, hi, hsz, _, _, _⟩ := ok_array hok
    obtain ⟨hg, h⟩ := h
    split at h
    · rename_i k' l hb hl'
      simp only [Bool.and_eq_true] at hb
      have he1 := Nat.eq_of_beq_eq_true hb.1
      have hle := Nat.le_of_ble_eq_true hb.2
      obtain ⟨q1, q2⟩ := intsOf_get hl'
      refine ⟨_, h, fun F τ w u v hgt hr hv => ?_⟩
      obtain ⟨h0, h1⟩ := hg hgt
      cases hv
      cases hr with
      | ptr _ _ b o f p1 p2 p3 =>
        have hlt : i.toNat < n := by omega
        have hcs : cs[i.toNat]? = some (.val (.int k' (l.getD i.toNat 0))) := by
          have := q2 i.toNat (by simp; omega)
          rw [List.getElem?_take, if_pos hlt] at this; exact this
        refine ⟨_, .ptr _ _ b (o + i.toNat * esz) (fun j => f (i.toNat + j)) p1 (fun j hj => ?_) (fun j x hx => ?_), fun w' => ?_⟩
        · have : j = 0 := by simp at hj; omega
          subst this
          rw [he1]; simpa using p2 i.toNat (by omega)
        · have : j = 0 := by
            have := (List.getElem?_eq_some_iff.1 hx).1
            simp at this; omega
          subst this
          simp at hx; subst hx
          exact p3 i.toNat _ hcs
        · simp [Instr.indexAt, run_underlying hu, Instr.sureAddr, asIntOf, h0, h1, sizeOf_run hi, hsz, add_none]
    refine ⟨_, h, fun F τ w u v hgt hr hv => ?_⟩
    obtain ⟨h0, h1⟩ := hg hgt
    cases hv
    obtain ⟨b, o, rfl, hr'⟩ := rep_ptr_drop hr (i.toNat * esz)
    refine ⟨_, hr', fun w' => ?_⟩
    simp [Instr.indexAt, run_underlying hu, Instr.sureAddr, asIntOf, h0, h1, sizeOf_run hi, hsz, add_none]
  · rename_i n esz _ id off k i hl
    have hok := tabB_look hT hl
    obtain ⟨e, fi, _, hu, hi, hsz, _, _, _⟩ := ok_array hok
    obtain ⟨hg, h⟩ := h
    refine ⟨_, h, fun F τ w u v hgt hr hv => ?_⟩
    obtain ⟨h0, h1⟩ := hg hgt
    cases hv
    cases hr with
    | obj _ _ _ b hb =>
      refine ⟨_, .obj _ id _ b hb, fun w' => ?_⟩
      simp [Instr.indexAt, run_underlying hu, Instr.sureAddr, asIntOf, h0, h1, sizeOf_run hi, hsz, add_none]
  · exact h.elim
theorem equalIn_bool {P : Program} {t : Nat} (hu : P.underlying t = some .bool) (n : Nat) (a b : Bool) (w : World) : (Op.equalIn (n + 1) t (.bool a) (.bool b)).run P w = .ok (a == b) w := by
  simp [Op.equalIn, run_underlying hu]
theorem equal_bool {P : Program} {t : Nat} (hu : P.underlying t = some .bool) (a b : Bool) (w : World) : (Op.equal t (.bool a) (.bool b)).run P w = .ok (a == b) w :=
  equalIn_bool hu 9999 a b w


def eqV : Leaf → Value → Value → Option Bool
  | .int, .int k a, .int k' b => if k = k' then some (a == b) else none
  | .bool, .bool a, .bool b => some (a == b)
  | .str, .string a, .string b => some (a == b)
  | _, _, _ => none
def eqVs : List Leaf → List Value → List Value → Option Bool
  | [], [], [] => some true
  | l :: lv, x :: xs, y :: ys => match eqV l x y, eqVs lv xs ys with
    | some p, some q => some (p && q)
    | _, _ => none
  | _, _, _ => none
theorem eqVs_len : ∀ {lv : List Leaf} {xs ys : List Value} {r : Bool}, eqVs lv xs ys = some r → xs.length = lv.length ∧ ys.length = lv.length
  | [], [], [], _, _ => ⟨rfl, rfl⟩
  | l :: lv, x :: xs, y :: ys, r, h => by
    simp only [eqVs] at h
    split at h
    · rename_i q h2
      have := eqVs_len h2
      simp [this.1, this.2]
    · cases h
  | [], _ :: _, _, _, h => by simp [eqVs] at h
  | [], [], _ :: _, _, h => by simp [eqVs] at h
  | _ :: _, [], _, _, h => by simp [eqVs] at h
  | _ :: _, _ :: _, [], _, h => by simp [eqVs] at h
theorem eqVs_append : ∀ {a b : List Leaf} {xs ys : List Value} {r : Bool}, eqVs (a ++ b) xs ys = some r → ∃ p q, eqVs a (xs.take a.length) (ys.take a.length) = some p ∧ eqVs b (xs.drop a.length) (ys.drop a.length) = some q ∧ r = (p && q)
  | [], b, xs, ys, r, h => ⟨true, r, by simp [eqVs], by simpa using h, by simp⟩
  | l :: a, b, [], ys, r, h => by simp [eqVs] at h
  | l :: a, b, x :: xs, [], r, h => by simp [eqVs] at h
  | l :: a, b, x :: xs, y :: ys, r, h => by
    simp only [List.cons_append, eqVs] at h
    split at h
    · rename_i p q h1 h2
      injection h with h; subst h
      obtain ⟨p', q', e1, e2, rfl⟩ := eqVs_append h2
      refine ⟨p && p', q', ?_, by simpa using e2, by simp [Bool.and_assoc]⟩
      simp only [List.length_cons, List.take_succ_cons, eqVs, h1, e1]
    · cases h

/-- The value of a type whose cells these are. -/
def IsV (P : Program) (t : Nat) (v : Value) (cs : List Value) : Prop := ∃ d, P.underlying t = some d ∧ (match aggB d with
  | true => v = .agg cs.toArray
  | false => cs = [v])

theorem part_isV {P : Program} {t n off : Nat} {cs : List Value} {d : TypeDesc} (hu : P.underlying t = some d) (hi : (P.info? t).map (·.size) = some n) (h1 : aggB d = false → n = 1) (hlen : off + n ≤ cs.length) (w : World) :
    ∃ v, (part t cs.toArray off).run P w = .ok v w ∧ IsV P t v ((cs.drop off).take n) := by
  obtain ⟨i, hi', rfl⟩ := Option.map_eq_some_iff.1 hi
  unfold part
  simp only [Sem.run_bind, isAgg_run hu, Result.andThen_ok]
  cases ha : aggB d with
  | true =>
    simp only [if_true, Sem.run_bind, sizeOf_run hi', Result.andThen_ok, Sem.run_pure]
    refine ⟨_, rfl, d, hu, ?_⟩
    rw [ha]
    simp [List.extract_eq_take_drop, Nat.add_sub_cancel_left]
  | false =>
    have hn := h1 ha
    have hlt : off < cs.length := by omega
    simp only [Bool.false_eq_true, if_false]
    refine ⟨cs[off], by simp [hlt], d, hu, ?_⟩
    rw [ha, hn]
    show (cs.drop off).take 1 = [cs[off]]
    rw [List.drop_eq_getElem_cons hlt]; rfl

def EqL (P : Program) (dd : Nat) (t : Nat) (lv : List Leaf) : Prop := ∀ w x y xs ys r, IsV P t x xs → IsV P t y ys → eqVs lv xs ys = some r → (Op.equalIn dd t x y).run P w = .ok r w

theorem leaves_one {P : Program} {f t : Nat} {lv : List Leaf} (h : leaves P f t = some lv) {d : TypeDesc} (hu : P.underlying t = some d) : aggB d = false → lv.length = 1 := by
  intro ha
  cases f with
  | zero => simp [leaves] at h
  | succ f =>
    simp only [leaves, hu] at h
    cases d <;> simp_all [aggB] <;> (subst h; rfl)
theorem leaves_under {P : Program} {f t : Nat} {lv : List Leaf} (h : leaves P f t = some lv) : ∃ d, P.underlying t = some d := by
  cases f with
  | zero => simp [leaves] at h
  | succ f =>
    cases hu : P.underlying t with
    | none => simp [leaves, hu] at h
    | some d => exact ⟨d, rfl⟩

theorem leaves_pos {P : Program} : ∀ (f t : Nat) (lv : List Leaf), leaves P f t = some lv → lv.length ≠ 0
  | 0, t, lv, h => by simp [leaves] at h
  | f + 1, t, lv, h => by
    simp only [leaves] at h
    split at h
    · injection h with h; subst h; simp
    · injection h with h; subst h; simp
    · injection h with h; subst h; simp
    · split at h
      · cases h
      · split at h
        · split at h
          · cases h
          · rename_i hn; injection h with h; subst h; exact hn
        · cases h
    · split at h
      · split at h
        · rename_i hc; injection h with h; subst h; exact hc.2
        · cases h
      · cases h
    · cases h

theorem eqFields_leaves {P : Program} {dd f : Nat} (hnz : ∀ t lv, leaves P f t = some lv → lv.length ≠ 0) (IH : ∀ t lv, leaves P f t = some lv → EqL P dd t lv) (xs ys : List Value) (w : World) : ∀ (fs : List Field) (off : Nat) (lv : List Leaf) (r : Bool), leavesF P (leaves P f) off fs = some lv → eqVs lv (xs.drop off) (ys.drop off) = some r →
    (Op.eqFields dd xs.toArray ys.toArray fs).run P w = .ok r w
  | [], off, lv, r, h, he => by
    simp only [leavesF, Option.some.injEq] at h; subst h
    have : r = true := by
      generalize xs.drop off = a at he
      generalize ys.drop off = b at he
      cases a <;> cases b <;> simp_all [eqVs]
    subst this; rfl
  | fd :: fs, off, lv, r, h, he => by
    simp only [leavesF] at h
    split at h
    · rename_i l hl
      split at h
      · rename_i hc
        obtain ⟨rfl, hne, hsz⟩ := hc
        obtain ⟨lv', h', rfl⟩ := Option.map_eq_some_iff.1 h
        obtain ⟨p, q, e1, e2, rfl⟩ := eqVs_append he
        obtain ⟨d, hu⟩ := leaves_under hl
        have l1 := eqVs_len e1
        have hx0 : l.length ≠ 0 := hnz _ _ hl
        have lx : fd.offset + l.length ≤ xs.length := by have h := l1.1; rw [List.length_take, List.length_drop] at h; omega
        have ly : fd.offset + l.length ≤ ys.length := by have h := l1.2; rw [List.length_take, List.length_drop] at h; omega
        obtain ⟨vx, rx, ix⟩ := part_isV hu hsz (leaves_one hl hu) lx w
        obtain ⟨vy, ry, iy⟩ := part_isV hu hsz (leaves_one hl hu) ly w
        have hq := IH _ _ hl w vx vy _ _ p ix iy e1
        simp only [Op.eqFields, hne, ne_eq, not_false_eq_true, if_true, Sem.run_bind, rx, ry, hq, Result.andThen_ok]
        cases p with
        | false => simp
        | true =>
          simp only [Bool.not_true, Bool.false_eq_true, if_false, Bool.true_and]
          exact eqFields_leaves hnz IH xs ys w fs _ _ _ h' (by rw [List.drop_drop, List.drop_drop] at e2; exact e2)
      · cases h
    · cases h

theorem eqItems_leaves {P : Program} {dd e sz : Nat} {l : List Leaf} (IH : EqL P dd e l) {d : TypeDesc} (hu : P.underlying e = some d) (hsz : (P.info? e).map (·.size) = some l.length) (h1 : aggB d = false → l.length = 1) (xs ys : List Value) (w : World) :
    ∀ (n k : Nat) (r : Bool), eqVs (repL l n) (xs.drop (k * l.length)) (ys.drop (k * l.length)) = some r →
    (forIn (List.range' k n) ((none, ()) : Option Bool × PUnit) (fun i _ => do
      let r ← Op.equalIn dd e (← part e xs.toArray (i * l.length)) (← part e ys.toArray (i * l.length))
      if (!r) = true then pure (ForInStep.done (some false, ())) else pure (ForInStep.yield (none, ()))) : Sem (Option Bool × PUnit)).run P w = .ok (if r then (none, ()) else (some false, ())) w
  | 0, k, r, h => by
    have : r = true := by
      simp only [repL] at h
      generalize xs.drop _ = a at h
      generalize ys.drop _ = b at h
      cases a <;> cases b <;> simp_all [eqVs]
    subst this; rfl
  | n + 1, k, r, h => by
    obtain ⟨p, q, e1, e2, rfl⟩ := eqVs_append (by simpa [repL] using h)
    have l1 := eqVs_len e1
    by_cases hl0 : l.length = 0
    · have hd : aggB d = true := by cases hh : aggB d with | true => rfl | false => have := h1 hh; omega
      obtain ⟨i, hi, his⟩ := Option.map_eq_some_iff.1 hsz
      have pr : ∀ zs : List Value, (part e zs.toArray (k * l.length)).run P w = .ok (.agg #[]) w := fun zs => by
        unfold part
        simp only [Sem.run_bind, isAgg_run hu, Result.andThen_ok, hd, if_true, sizeOf_run hi, his, Sem.run_pure, hl0, Nat.mul_zero, Nat.add_zero]
        simp
      have iv : IsV P e (.agg #[]) [] := ⟨d, hu, by rw [hd]⟩
      have ln : l = [] := List.eq_nil_of_length_eq_zero hl0
      have hq := IH w _ _ [] [] true iv iv (by rw [ln]; rfl)
      have hp : p = true := by rw [ln] at e1; simp [eqVs] at e1; exact e1
      subst hp
      simp only [List.range'_succ, List.forIn_cons, Sem.run_bind, pr, Result.andThen_ok, hq, Bool.not_true, Bool.false_eq_true, if_false, Sem.run_pure]
      have := eqItems_leaves (sz := sz) IH hu hsz h1 xs ys w n (k + 1) q (by rw [List.drop_drop, List.drop_drop] at e2; rw [Nat.add_mul, Nat.one_mul]; exact e2)
      simpa using this
    · have lx : k * l.length + l.length ≤ xs.length := by have := l1.1; simp at this; omega
      have ly : k * l.length + l.length ≤ ys.length := by have := l1.2; simp at this; omega
      obtain ⟨vx, rx, ix⟩ := part_isV hu hsz h1 lx w
      obtain ⟨vy, ry, iy⟩ := part_isV hu hsz h1 ly w
      have hq := IH w vx vy _ _ p ix iy e1
      simp only [List.range'_succ, List.forIn_cons, Sem.run_bind, rx, ry, Result.andThen_ok, hq]
      cases p with
      | false => simp
      | true =>
        simp only [Bool.not_true, Bool.false_eq_true, if_false, Sem.run_pure, Result.andThen_ok]
        have := eqItems_leaves (sz := sz) IH hu hsz h1 xs ys w n (k + 1) q (by rw [List.drop_drop, List.drop_drop] at e2; rw [Nat.add_mul, Nat.one_mul]; exact e2)
        simpa using this

theorem equalIn_leaves {P : Program} : ∀ (f t : Nat) (lv : List Leaf), leaves P f t = some lv → ∀ d, f ≤ d → EqL P d t lv
  | 0, t, lv, h, _, _ => by simp [leaves] at h
  | f + 1, t, lv, h, 0, hd => by omega
  | f + 1, t, lv, h, d + 1, hd => by
    intro w x y xs ys r hx hy he
    obtain ⟨dx, hu, hx⟩ := hx
    obtain ⟨dy, hu', hy⟩ := hy
    rw [hu] at hu'; injection hu' with hu'; subst hu'
    simp only [leaves, hu] at h
    have key : ∀ (a b : Value) (l : Leaf), eqVs [l] [a] [b] = some r → eqV l a b = some r := by
      intro a b l h
      simp only [eqVs] at h
      split at h
      · rename_i p q h1 h2
        injection h2 with h2; subst h2
        rw [h1]; simpa using h
      · cases h
    cases dx <;> simp only [aggB] at hx hy <;> simp only [Option.some.injEq, reduceCtorEq] at h
    case bool =>
      subst h hx hy
      have := key _ _ _ he
      cases x <;> cases y <;> simp [eqV] at this
      rw [equalIn_bool hu]; simp [this]
    case int k =>
      subst h hx hy
      have := key _ _ _ he
      cases x <;> cases y <;> simp [eqV] at this
      obtain ⟨rfl, this⟩ := this
      rw [run_equalIn_int w d t _ k _ _ hu]; simp [this]
    case string =>
      subst h hx hy
      have := key _ _ _ he
      cases x <;> cases y <;> simp [eqV] at this
      simp [Op.equalIn, run_underlying hu, this]
    case struct fs =>
      subst hx hy
      split at h
      · cases h
      · rename_i hs
        have hfo : P.fieldsOf t = fs := by simp [Program.fieldsOf, hu]
        rw [run_equalIn_struct w d t _ _ (by rw [hfo]; exact hu) (by simpa using hs), hfo]
        have h : leavesF P (leaves P f) 0 fs.toList = some lv := by
          split at h
          · split at h
            · cases h
            · rename_i l he2 _; injection h with h; subst h; exact he2
          · cases h
        exact eqFields_leaves (leaves_pos f) (fun t' lv' h' => equalIn_leaves f t' lv' h' d (by omega)) xs ys w fs.toList 0 lv r h (by simpa using he)
    case array n e =>
      subst hx hy
      split at h
      · rename_i l hl
        split at h
        · rename_i hsz
          have hsz := hsz.1
          injection h with h; subst h
          obtain ⟨de, hue⟩ := leaves_under hl
          obtain ⟨i, hi, his⟩ := Option.map_eq_some_iff.1 hsz
          have := eqItems_leaves (sz := 0) (equalIn_leaves f e l hl d (by omega)) hue hsz (leaves_one hl hue) xs ys w n 0 r (by simpa using he)
          simp only [Op.equalIn, Sem.run_bind, run_underlying hu, Result.andThen_ok, sizeOf_run hi, his]
          simp only [Std.Legacy.Range.forIn_eq_forIn_range', Std.Legacy.Range.size]
          simp only [Nat.sub_zero, Nat.add_sub_cancel, Nat.div_one]
          rw [this]
          cases r <;> simp
        · cases h
      · cases h

theorem cmpA_sound : ∀ (lv : List Leaf) (xs ys : List AV) (K : Bool → Prop), cmpA lv xs ys K → ∃ q, K q ∧ ∀ F τ w (us vs : List Value), xs.length = us.length → ys.length = vs.length → (∀ (j : Nat) (x : AV), xs[j]? = some x → Rep F w τ x (us.getD j undef)) → (∀ (j : Nat) (y : AV), ys[j]? = some y → Rep F w τ y (vs.getD j undef)) → eqVs lv us vs = some q := by
  intro lv
  induction lv with
  | nil =>
    intro xs ys K h
    cases xs <;> cases ys <;> simp only [cmpA] at h
    refine ⟨true, h, fun F τ w us vs h1 h2 _ _ => ?_⟩
    cases us <;> cases vs <;> simp_all [eqVs]
  | cons l lv ih =>
    intro xs ys K h
    have step : ∀ (a b : Value) (xs ys : List AV) (p : Bool), eqV l a b = some p → (cmpA lv xs ys fun q => K (p && q)) → ∃ q, K q ∧ ∀ F τ w (us vs : List Value), (AV.val a :: xs).length = us.length → (AV.val b :: ys).length = vs.length → (∀ (j : Nat) (x : AV), (AV.val a :: xs)[j]? = some x → Rep F w τ x (us.getD j undef)) → (∀ (j : Nat) (y : AV), (AV.val b :: ys)[j]? = some y → Rep F w τ y (vs.getD j undef)) → eqVs (l :: lv) us vs = some q := by
      intro a b xs ys p hp h
      obtain ⟨q, hK, hs⟩ := ih xs ys _ h
      refine ⟨_, hK, fun F τ w us vs h1 h2 h3 h4 => ?_⟩
      match us, vs, h1, h2 with
      | u :: us, v :: vs, h1, h2 =>
        have e1 : u = a := by have := h3 0 _ rfl; simp at this; cases this; rfl
        have e2 : v = b := by have := h4 0 _ rfl; simp at this; cases this; rfl
        subst e1 e2
        have := hs F τ w us vs (by simpa using h1) (by simpa using h2) (fun j x hx => by simpa using h3 (j + 1) x (by simpa using hx)) (fun j x hx => by simpa using h4 (j + 1) x (by simpa using hx))
        simp [eqVs, hp, this]
    match l, xs, ys, h with
    | .int, .val (.int k a) :: xs', .val (.int k' b) :: ys', h =>
      obtain ⟨hk, h2⟩ := chk_spec (show chk (ikB k k') (cmpA lv xs' ys' fun q => K ((a == b) && q)) from h)
      have := ikB_spec hk; subst this
      exact step _ _ _ _ (a == b) (by simp only [eqV, if_true]) h2
    | .bool, .val (.bool a) :: xs', .val (.bool b) :: ys', h => exact step _ _ _ _ (a == b) (by simp only [eqV]) h
    | .str, .val (.string a) :: xs', .val (.string b) :: ys', h => exact step _ _ _ _ (a == b) (by simp only [eqV]) h

theorem equalIn_nil {P : Program} {t e : Nat} (hu : P.underlying t = some (.slice e)) (k : Nat) (A : Option Addr) (n c n' c' : Nat) (w : World) : (Op.equalIn (k + 1) t (.slice A n c) (.slice none n' c')).run P w = .ok A.isNone w := by
  cases A <;> simp [Op.equalIn, run_underlying hu]
theorem equal_nil {P : Program} {t e : Nat} (hu : P.underlying t = some (.slice e)) (A : Option Addr) (n c n' c' : Nat) (w : World) : (Op.equal t (.slice A n c) (.slice none n' c')).run P w = .ok A.isNone w :=
  equalIn_nil hu 9999 A n c n' c' w
theorem nilv_sound {P : Program} {t e : Nat} (hu : P.underlying t = some (.slice e)) {op : BinOp} {b : Bool} {K : AV → Prop} (h : nilv op b K) :
    ∃ z : Bool, K (.bool z) ∧ ∀ (A : Option Addr) (n c n' c' : Nat), A.isNone = b → ∀ w' xo yo, (do eqGuard op t xo yo (.slice A n c) (.slice none n' c'); binOp op t (.slice A n c) (.slice none n' c')).run P w' = .ok (.bool z) w' := by
  unfold nilv at h
  split at h
  · refine ⟨_, h, fun A n c n' c' hA w' xo yo => ?_⟩
    simp [eqGuard, binOp, equal_nil hu, hA]
  · refine ⟨_, h, fun A n c n' c' hA w' xo yo => ?_⟩
    simp [eqGuard, binOp, equal_nil hu, hA]
  · exact h.elim
theorem bin_sound {P : Program} {T : List (Nat × TI)} (hT : tabB P T = true) {g : Bool} {op : BinOp} {x y : AV} {K : AV → Prop} {t : Nat} (h : bin T g op t x y K) :
    ∃ z, K z ∧ ∀ F τ w u v, g = true → Rep F w τ x u → Rep F w τ y v → ∃ r, Rep F w τ z r ∧ ∀ w' xo yo, (do eqGuard op t xo yo u v; binOp op t u v).run P w' = .ok r w' := by
  unfold bin at h
  split at h
  · rename_i a b
    split at h
    · rename_i hl
      have hu := ok_bool (tabB_look hT hl)
      unfold binB at h
      split at h
      · refine ⟨_, h, fun F τ w u v hg hu' hv' => ?_⟩
        cases hu'; cases hv'
        refine ⟨_, .val _ _, fun w' xo yo => ?_⟩
        simp [eqGuard, binOp, equal_bool hu]
      · refine ⟨_, h, fun F τ w u v hg hu' hv' => ?_⟩
        cases hu'; cases hv'
        refine ⟨_, .val _ _, fun w' xo yo => ?_⟩
        simp [eqGuard, binOp, equal_bool hu]
        cases a <;> cases b <;> rfl
      · exact h.elim
    · exact h.elim
  · rename_i k a k' b
    split at h
    · rename_i hs
      cases op <;> simp only [BinOp.isShift] at hs <;> (try (exact absurd hs (by decide)))
      all_goals
        simp only [shiftI] at h
        obtain ⟨h1, h2, h3⟩ := h
        refine ⟨_, h3, fun F τ w u v hg hu hv => ?_⟩
        cases hu; cases hv
        refine ⟨_, .val _ _, fun w' xo yo => ?_⟩
        simp [eqGuard, binOp_shl, binOp_shr, Op.shift, Int.not_lt.2 h1]
    · rename_i hs
      obtain ⟨hk, h2⟩ := chk_spec h
      have hkk := ikB_spec hk
      subst hkk
      obtain ⟨z, hz, hr⟩ := binI_sound (t := t) (by simpa using hs) h2
      refine ⟨z, hz, fun F τ w u v hg hu hv => ?_⟩
      cases hu; cases hv
      obtain ⟨r, h1, h2⟩ := hr F τ w
      refine ⟨r, h1, fun w' xo yo => ?_⟩
      rw [Sem.run_bind, show (eqGuard op t xo yo (.int k a) (.int k b)) = pure () from by cases op <;> rfl]
      exact h2 P w'
  · rename_i xs ys
    split at h
    · rename_i lv hl
      have hok := tabB_leaves hT hl
      simp only [TI.okB, Bool.and_eq_true, beq_iff_eq, Bool.not_eq_true'] at hok
      obtain ⟨⟨hlv, hg⟩, hagg⟩ := hok
      obtain ⟨q, h, hs⟩ := cmpA_sound _ _ _ _ h
      obtain ⟨d, hu⟩ := leaves_under hlv
      have hrun : ∀ F τ w u v, Rep F w τ (.agg xs) u → Rep F w τ (.agg ys) v → aggB d = true → ∃ us vs, u = .agg us ∧ v = .agg vs ∧ ∀ w', (Op.equal t u v).run P w' = .ok q w' := by
        intro F τ w u v h1 h2 ha
        cases h1 with
        | agg _ _ us l1 r1 =>
          cases h2 with
          | agg _ _ vs l2 r2 =>
            refine ⟨us, vs, rfl, rfl, fun w' => ?_⟩
            exact equalIn_leaves 8 t lv hlv 10000 (by omega) w' _ _ us.toList vs.toList q ⟨d, hu, by rw [ha]⟩ ⟨d, hu, by rw [ha]⟩ (hs F τ w _ _ (by simpa using l1) (by simpa using l2) (fun j x hx => by simpa using r1 j x hx) (fun j x hx => by simpa using r2 j x hx))
      have ha : aggB d = true := by
        rw [hu] at hagg
        cases d <;> simp_all [aggB]
      split at h
      · refine ⟨_, h, fun F τ w u v hgt h1 h2 => ⟨_, .val _ _, fun w' xo yo => ?_⟩⟩
        obtain ⟨us, vs, rfl, rfl, hr⟩ := hrun F τ w u v h1 h2 ha
        rw [Sem.run_bind, run_eqGuard_agg w' _ t xo yo us vs hg, Result.andThen_ok]
        simp [binOp, hr]
      · refine ⟨_, h, fun F τ w u v hgt h1 h2 => ⟨_, .val _ _, fun w' xo yo => ?_⟩⟩
        obtain ⟨us, vs, rfl, rfl, hr⟩ := hrun F τ w u v h1 h2 ha
        rw [Sem.run_bind, run_eqGuard_agg w' _ t xo yo us vs hg, Result.andThen_ok]
        simp [binOp, hr]
      · exact h.elim
    · exact h.elim
  · rename_i a b
    unfold strv at h
    split at h
    · refine ⟨_, h, fun F τ w u v hg h1 h2 => ?_⟩
      cases h1; cases h2
      exact ⟨_, .val _ _, fun w' xo yo => by simp [eqGuard, binOp, Op.stringOp]⟩
    · refine ⟨_, h, fun F τ w u v hg h1 h2 => ?_⟩
      cases h1; cases h2
      exact ⟨_, .val _ _, fun w' xo yo => by simp [eqGuard, binOp, Op.stringOp]⟩
    · obtain ⟨hs, h⟩ := h
      refine ⟨_, h, fun F τ w u v hg h1 h2 => ?_⟩
      cases h1; cases h2
      exact ⟨_, .val _ _, fun w' xo yo => by
        have : ¬ (((a.size + b.size : Nat) : Int) > IntKind.i64.max) := by simp [IntKind.max, IntKind.bits, IntKind.signed]; omega
        simp only [eqGuard, binOp, Op.stringOp, if_neg this]
        simp⟩
    · exact h.elim
  · rename_i A n c n' c'
    split at h
    · rename_i e esz by_ hl
      obtain ⟨fi, hu, _⟩ := ok_slice (tabB_look hT hl)
      obtain ⟨z, hz, hr⟩ := nilv_sound hu h
      refine ⟨_, hz, fun F τ w u v hg h1 h2 => ?_⟩
      cases h1; cases h2
      exact ⟨_, .val _ _, fun w' xo yo => hr _ _ _ _ _ rfl w' xo yo⟩
    · exact h.elim
  · rename_i sz n row n' c'
    split at h
    · rename_i e esz by_ hl
      obtain ⟨fi, hu, _⟩ := ok_slice (tabB_look hT hl)
      obtain ⟨hn, h⟩ := h
      obtain ⟨z, hz, hr⟩ := nilv_sound hu h
      refine ⟨_, hz, fun F τ w u v hg h1 h2 => ?_⟩
      cases h2
      cases h1 with
      | ro _ _ _ _ A c f p1 p2 p3 p4 p5 =>
        obtain ⟨b, o, rfl, _⟩ := p3 (hn hg)
        exact ⟨_, .val _ _, fun w' xo yo => hr _ _ _ _ _ rfl w' xo yo⟩
    · exact h.elim
  · rename_i id n n' c'
    split at h
    · rename_i e esz by_ hl
      obtain ⟨fi, hu, _⟩ := ok_slice (tabB_look hT hl)
      obtain ⟨hn, h⟩ := h
      obtain ⟨z, hz, hr⟩ := nilv_sound hu h
      refine ⟨_, hz, fun F τ w u v hg h1 h2 => ?_⟩
      cases h2
      cases h1 with
      | sl _ _ _ A m c q1 q2 q3 q4 =>
        obtain ⟨b, rfl⟩ := q4 (by have := hn hg; omega)
        exact ⟨_, .val _ _, fun w' xo yo => hr _ _ _ _ _ rfl w' xo yo⟩
    · exact h.elim
  · exact h.elim
end Go.Abs

namespace Go.Abs
open Go Go.RowKit
set_option linter.unusedVariables false
set_option linter.unusedSimpArgs false

/-- In every later world it hands back the value, and leaves the world alone. -/
def Quiet (P : Program) (op : Op) (ty : TypeId) (a : Act) (w : World) (v : Value) : Prop :=
  ∀ (o : Oper), o.op = op → ∀ w', Below w.heap.size w w' → (execOp a.eval o).run P w' = .ok (.value v) w'

theorem agetO_sound {g : Bool} {s : St} {x : Option Operand} {K : Option AV → Prop} (h : agetO g s x K) :
    ∃ y, K y ∧ ∀ F τ w n (a : Act), g = true → EnvR F τ w n s.env a.tmps → (x = none ∧ y = none) ∨ ∃ xo z, x = some xo ∧ y = some z ∧ Rep F w τ z (a.eval xo) := by
  cases x with
  | none => exact ⟨_, h, fun _ _ _ _ _ _ _ => .inl ⟨rfl, rfl⟩⟩
  | some x =>
    obtain ⟨y, hy, hs⟩ := aget_sound (K := fun y => K (some y)) h
    exact ⟨_, hy, fun F τ w n a hg he => .inr ⟨_, _, rfl, rfl, hs F τ w n a hg he⟩⟩

theorem boundv_sound {x : Option AV} {d : Int} {K : Int → Prop} (h : boundv x d K) : ∃ i, K i ∧ ((x = none ∧ i = d) ∨ ∃ k, x = some (.val (.int k i))) := by
  unfold boundv at h
  split at h
  · exact ⟨_, h, .inl ⟨rfl, rfl⟩⟩
  · exact ⟨_, h, .inr ⟨_, rfl⟩⟩
  · exact h.elim

theorem sliceBound_ok {P : Program} {w : World} {k : IntKind} {i : Int} {y : Nat} {code : BoundsCode} (h0 : 0 ≤ i) (h1 : i ≤ y) : (Instr.sliceBound (.int k i) y code).run P w = .ok i.toNat w := by
  simp [Instr.sliceBound, asIntOf, h0, h1]

theorem slice_run {P : Program} {t e esz : Nat} {by_ : Nat} (hok : (TI.slice e esz by_).okB P t = true) {A : Option Addr} {n c : Nat} {lo hi : Option Value} {l h : Int}
    (hlo : (lo = none ∧ l = 0) ∨ ∃ k, lo = some (.int k l)) (hhi : (hi = none ∧ h = n) ∨ ∃ k, hi = some (.int k h)) (h0 : 0 ≤ l) (h1 : l ≤ h) (h2 : h ≤ (n : Int)) (hc : n ≤ c) (w : World) :
    (Instr.sliceAt t (.slice A n c) lo hi none).run P w = .ok (.slice (if c = l.toNat then A else A.map (·.add (l.toNat * esz))) (h.toNat - l.toNat) (c - l.toNat)) w := by
  obtain ⟨fi, hu, hi', hsz, hpos, _⟩ := ok_slice hok
  rcases hlo with ⟨rfl, rfl⟩ | ⟨k, rfl⟩ <;> rcases hhi with ⟨rfl, rfl⟩ | ⟨k', rfl⟩
  all_goals simp only [Instr.sliceAt, Instr.slice, Instr.sliceBounds, Sem.run_bind, run_underlying hu, Result.andThen_ok, Sem.run_pure, sizeOf_run hi', hsz, pure_bind, if_true]
  all_goals (try rw [sliceBound_ok (by omega) (by omega)])
  all_goals (try simp only [Result.andThen_ok])
  all_goals (try rw [sliceBound_ok (by omega) (by omega)])
  all_goals (simp [sizeOf_run hi', hsz]; done)

theorem slicev_sound {P : Program} {T : List (Nat × TI)} (hT : tabB P T = true) {g : Bool} {t e esz by_ : Nat} (hl : look T t = some (.slice e esz by_)) {x : AV} {lo hi : Option AV} {K : AV → Prop} (h : slicev g esz x lo hi K) :
    ∃ y, K y ∧ ∀ F τ w u (lv hv : Option Value), g = true → Rep F w τ x u →
      ((lo = none ∧ lv = none) ∨ ∃ z v, lo = some z ∧ lv = some v ∧ Rep F w τ z v) → ((hi = none ∧ hv = none) ∨ ∃ z v, hi = some z ∧ hv = some v ∧ Rep F w τ z v) →
      ∃ r, Rep F w τ y r ∧ ∀ w', (Instr.sliceAt t u lv hv none).run P w' = .ok r w' := by
  have hok := tabB_look hT hl
  have conv : ∀ F τ w (x : Option AV) (xv : Option Value) (d i : Int), ((x = none ∧ i = d) ∨ ∃ k, x = some (.val (.int k i))) → ((x = none ∧ xv = none) ∨ ∃ z v, x = some z ∧ xv = some v ∧ Rep F w τ z v) → (xv = none ∧ i = d) ∨ ∃ k, xv = some (.int k i) := by
    intro F τ w x xv d i h1 h2
    rcases h1 with ⟨rfl, rfl⟩ | ⟨k, rfl⟩
    · rcases h2 with ⟨_, rfl⟩ | ⟨z, v, h, _⟩
      · exact .inl ⟨rfl, rfl⟩
      · cases h
    · rcases h2 with ⟨h, _⟩ | ⟨z, v, h, rfl, hr⟩
      · cases h
      · injection h with h; subst h; cases hr; exact .inr ⟨k, rfl⟩
  unfold slicev at h
  split at h
  · rename_i sz n row
    obtain ⟨l, h, hlo⟩ := boundv_sound h
    obtain ⟨hh, h, hhi⟩ := boundv_sound h
    obtain ⟨hsz', hg, h2⟩ := chk_spec h
    have hszz := Nat.eq_of_beq_eq_true hsz'
    subst hszz
    refine ⟨_, h2, fun F τ w u lv hv hgt hr h1 h2 => ?_⟩
    obtain ⟨q0, q1, q2⟩ := hg hgt
    cases hr with
    | ro _ _ _ _ A c f p1 p2 p3 p4 p5 =>
      refine ⟨_, ?_, fun w' => slice_run hok (conv F τ w lo lv 0 l hlo h1) (conv F τ w hi hv n hh hhi h2) q0 q1 q2 p1 w'⟩
      have e1 : hh.toNat - l.toNat = (hh - l).toNat := by omega
      rw [e1]
      refine .ro _ _ _ _ _ _ (fun i j => f (l.toNat + i) j) (by omega) (by omega) (fun hn => ?_) (fun i hi => p4 _ (by omega)) (fun i j x hi hx => p5 _ j x (by omega) hx)
      obtain ⟨b, o, rfl, hb, hc⟩ := p3 (by omega)
      rw [if_neg (by omega)]
      refine ⟨b, o + l.toNat * sz, by simp [add_none], hb, fun i j hi hj => ?_⟩
      have := hc (l.toNat + i) j (by omega) hj
      rw [Nat.add_mul, ← Nat.add_assoc] at this
      exact this
  · rename_i id n
    split at h
    · obtain ⟨hh, h, hhi⟩ := boundv_sound h
      obtain ⟨hg, h⟩ := h
      refine ⟨_, h, fun F τ w u lv hv hgt hr h1 h2 => ?_⟩
      obtain ⟨q0, q1⟩ := hg hgt
      cases hr with
      | sl _ _ _ A m c hτ hnm hmc hA =>
        refine ⟨_, ?_, fun w' => slice_run hok (.inl ⟨?_, rfl⟩) (conv F τ w hi hv n hh hhi h2) (Int.le_refl 0) q0 q1 (by omega) w'⟩
        · have e1 : (if c = (0 : Int).toNat then A else A.map (·.add ((0 : Int).toNat * esz))) = A := by
            split
            · rfl
            · cases A <;> simp [Addr.add]
          rw [e1]
          simp only [Int.toNat_zero, Nat.sub_zero]
          exact .sl _ _ _ A m c hτ (by omega) hmc hA
        · rcases h1 with ⟨_, h⟩ | ⟨z, v, h, _⟩
          · exact h
          · cases h
    · rename_i z0
      obtain ⟨l, h, hlo⟩ := boundv_sound h
      obtain ⟨hh, h, hhi⟩ := boundv_sound h
      obtain ⟨hg, h⟩ := h
      refine ⟨_, h, fun F τ w u lv hv hgt hr h1 h2 => ?_⟩
      obtain ⟨q0, q1, q2⟩ := hg hgt
      cases hr with
      | sl _ _ _ A m c hτ hnm hmc hA =>
        refine ⟨_, ?_, fun w' => slice_run hok (conv F τ w _ lv 0 l hlo h1) (conv F τ w hi hv n hh hhi h2) q0 q1 q2 (by omega) w'⟩
        have e1 : hh.toNat - l.toNat = (hh - l).toNat := by omega
        rw [e1]
        exact .so _ _ esz l.toNat _ A m c hτ (by omega) hmc hA
  · exact h.elim

theorem exec_value {P : Program} {x : Sem Value} {v : Value} {w w' : World} (h : x.run P w = .ok v w') : (do pure (Next.value (← x)) : Sem Next).run P w = .ok (.value v) w' := by
  simp [h]

theorem cellsV_sound {x : AV} {K : List AV → Prop} (h : cellsV x K) : ∃ cs, K cs ∧ ∀ F w τ v, Rep F w τ x v → v.cells.size = cs.length ∧ ∀ (j : Nat) (c : AV), cs[j]? = some c → Rep F w τ c (v.cells.getD j undef) := by
  have one : ∀ (x : AV) F w τ v, v.oneCell' = true → Rep F w τ x v → v.cells.size = [x].length ∧ ∀ (j : Nat) (c : AV), [x][j]? = some c → Rep F w τ c (v.cells.getD j undef) := by
    intro x F w τ v ho hr
    have hc : v.cells = #[v] := by cases v <;> first | rfl | simp [Value.oneCell'] at ho
    rw [hc]
    refine ⟨rfl, fun j c hj => ?_⟩
    cases j with
    | zero => simp at hj; subst hj; exact hr
    | succ j => simp at hj
  unfold cellsV at h
  split at h
  · refine ⟨_, h, fun F w τ v hr => ?_⟩
    cases hr with
    | agg _ _ vs hl hv => exact ⟨hl.symm, hv⟩
  · obtain ⟨h1, h2⟩ := chk_spec h
    refine ⟨_, h2, fun F w τ v hr => ?_⟩
    cases hr; exact one _ F w τ _ h1 (.val _ _)
  · refine ⟨_, h, fun F w τ v hr => one _ F w τ v (by cases hr; rfl) hr⟩
  · refine ⟨_, h, fun F w τ v hr => one _ F w τ v (by cases hr; rfl) hr⟩
  · refine ⟨_, h, fun F w τ v hr => one _ F w τ v (by cases hr; rfl) hr⟩
  · refine ⟨_, h, fun F w τ v hr => one _ F w τ v (by cases hr; rfl) hr⟩
  · refine ⟨_, h, fun F w τ v hr => one _ F w τ v (by cases hr; rfl) hr⟩
  · refine ⟨_, h, fun F w τ v hr => one _ F w τ v (by cases hr; rfl) hr⟩
  · refine ⟨_, h, fun F w τ v hr => one _ F w τ v (by cases hr; rfl) hr⟩
  · exact h.elim


theorem zero_info {P : Program} {t : Nat} {vs : List Value} (h : zeroCells P t = some vs) : ∃ i z, P.info? t = some i ∧ i.zero = some z ∧ z.cells.toList = vs := by
  unfold zeroCells at h
  cases hi : P.info? t with
  | none => rw [hi] at h; cases h
  | some i =>
    cases hz : i.zero with
    | none => rw [hi] at h; simp [hz] at h
    | some z => rw [hi] at h; simp [hz] at h; exact ⟨i, z, rfl, hz, by simpa using h⟩

theorem rep_zero {F : Nat → Prop} {w : World} {τ : Nm → Option Value} {zs : List Value} {j : Nat} {x : AV} (hx : (zs.map AV.val)[j]? = some x) : Rep F w τ x (zs.toArray.getD j undef) := by
  rw [List.getElem?_map] at hx
  cases hv : zs[j]? with
  | none => rw [hv] at hx; cases hx
  | some v =>
    rw [hv] at hx; injection hx with hx; subst hx
    have : zs.toArray.getD j undef = v := by simp [hv]
    rw [this]; exact .val _ _

theorem run_zeroValue {P : Program} {t : Nat} {i : TypeInfo} {z : Value} (hi : P.info? t = some i) (hz : i.zero = some z) (w : World) : (zeroValue t).run P w = .ok z w := by
  simp [zeroValue, typeInfo, hi, hz]

theorem run_places {P : Program} (fs : Array Field) (hs : ∀ f ∈ fs.toList, (P.info? f.type).isSome = true) (w : World) :
    (fs.mapM fun f => do pure (f.offset, ← sizeOf f.type) : Sem (Array (Nat × Nat))).run P w = .ok (fs.toList.map fun f => (f.offset, szOf P f.type)).toArray w := by
  rw [Array.mapM_eq_mapM_toList]
  generalize fs.toList = l at *
  have : ∀ l : List Field, (∀ f ∈ l, (P.info? f.type).isSome = true) → (l.mapM fun f => do pure (f.offset, ← sizeOf f.type) : Sem (List (Nat × Nat))).run P w = .ok (l.map fun f => (f.offset, szOf P f.type)) w := by
    intro l
    induction l with
    | nil => intro _; rfl
    | cons f r ih =>
      intro h
      obtain ⟨i, hi⟩ := Option.isSome_iff_exists.1 (h f (List.mem_cons_self ..))
      rw [List.mapM_cons]
      simp only [Sem.run_bind, sizeOf_run hi, Result.andThen_ok, Sem.run_pure, ih fun g hg => h g (List.mem_cons_of_mem _ hg)]
      try simp [szOf, hi]
  simp only [Sem.run_map, this l hs]
  rfl

theorem fold_set (off : Nat) : ∀ (cs : List Value) (k : Nat) (arr : Array Value), off + k + cs.length ≤ arr.size →
    (((cs.zipIdx k).foldl (fun a (x : Value × Nat) => a.setIfInBounds (off + x.2) x.1) arr).size = arr.size ∧ ∀ j, ((cs.zipIdx k).foldl (fun a (x : Value × Nat) => a.setIfInBounds (off + x.2) x.1) arr).getD j undef = if off + k ≤ j ∧ j < off + k + cs.length then cs.getD (j - (off + k)) undef else arr.getD j undef)
  | [], k, arr, h => by
    refine ⟨rfl, fun j => ?_⟩
    rw [if_neg (by simp only [List.length_nil]; omega)]; rfl
  | c :: r, k, arr, h => by
    simp only [List.length_cons] at h
    obtain ⟨h1, h2⟩ := fold_set off r (k + 1) (arr.setIfInBounds (off + k) c) (by simp; omega)
    simp only [List.zipIdx_cons, List.foldl_cons]
    refine ⟨by rw [h1]; simp, fun j => ?_⟩
    rw [h2]
    by_cases e : j = off + k
    · subst e
      rw [if_neg (by omega), if_pos (by simp only [List.length_cons]; omega)]
      have : off + k < arr.size := by omega
      simp [this]
    · by_cases e2 : off + k + 1 ≤ j ∧ j < off + k + 1 + r.length
      · rw [if_pos (by omega), if_pos (by simp only [List.length_cons]; omega)]
        rw [show j - (off + k) = (j - (off + (k + 1))) + 1 by omega, List.getD_cons_succ]
      · rw [if_neg (by omega), if_neg (by simp only [List.length_cons]; omega)]
        simp only [Array.getD_eq_getD_getElem?]
        rw [Array.getElem?_setIfInBounds_ne (by omega)]

theorem overlay_sound {g : Bool} {s : St} {place : Nat → Option (Nat × Nat)} : ∀ (parts : List (Nat × Operand)) (base : List AV) {K : List AV → Prop}, overlay g s place parts base K →
    ∃ cs, K cs ∧ ∀ F τ w n (a : Act), g = true → EnvR F τ w n s.env a.tmps → ∀ bs : Array Value, bs.size = base.length → (∀ (j : Nat) (x : AV), base[j]? = some x → Rep F w τ x (bs.getD j undef)) →
      ∃ vs, Instr.fill place bs (parts.map fun x => (x.1, a.eval x.2)) = some vs ∧ Rep F w τ (.agg cs) (.agg vs)
  | [], base, K, h => ⟨base, h, fun F τ w n a hg he bs h1 h2 => ⟨bs, rfl, .agg _ _ _ h1.symm h2⟩⟩
  | (i, x) :: r, base, K, h => by
    simp only [overlay] at h
    split at h
    · rename_i o sz hp
      obtain ⟨xv, h, hx⟩ := aget_sound h
      obtain ⟨cs, h, hc⟩ := cellsV_sound h
      obtain ⟨c1, h⟩ := chk_spec h
      obtain ⟨c2, h⟩ := chk_spec h
      have c1 := Nat.eq_of_beq_eq_true c1
      have c2 := Nat.le_of_ble_eq_true c2
      obtain ⟨rs, hK, hs⟩ := overlay_sound r _ h
      refine ⟨rs, hK, fun F τ w n a hg he bs h1 h2 => ?_⟩
      obtain ⟨q1, q2⟩ := hc F w τ _ (hx F τ w n a hg he)
      have hsz : (a.eval x).cells.toList.length = sz := by rw [Array.length_toList, q1, c1]
      obtain ⟨f1, f2⟩ := fold_set o (a.eval x).cells.toList 0 bs (by omega)
      obtain ⟨vs, e1, e2⟩ := hs F τ w n a hg he (((a.eval x).cells.toList.zipIdx 0).foldl (fun a (x : Value × Nat) => a.setIfInBounds (o + x.2) x.1) bs) (by rw [f1]; simp; omega) (fun j y hy => by
        rw [f2]
        by_cases j1 : j < o
        · rw [if_neg (by omega)]
          rw [List.append_assoc, List.getElem?_append_left (by simp; omega), List.getElem?_take, if_pos j1] at hy
          exact h2 j y hy
        · by_cases j2 : j < o + sz
          · rw [if_pos (by omega)]
            have hlen : (base.take o).length = o := by simp; omega
            rw [List.append_assoc, List.getElem?_append_right (by omega), List.getElem?_append_left (by omega), hlen] at hy
            have := q2 (j - o) y hy
            simpa using this
          · rw [if_neg (by omega)]
            have hlen : (base.take o ++ cs).length = o + sz := by simp; omega
            rw [List.getElem?_append_right (by omega), hlen, List.getElem?_drop] at hy
            exact h2 j y (by rw [← hy]; congr 1; omega))
      refine ⟨vs, ?_, e2⟩
      simp only [List.map_cons, Instr.fill, hp]
      rw [if_neg (by have hq : (a.eval x).cells.size = sz := by rw [q1, c1]
                     simp [hq]; omega)]
      have e3 : (a.eval x).cells.zipIdx.foldl (fun cs (c, j) => cs.setIfInBounds (o + j) c) bs = ((a.eval x).cells.toList.zipIdx 0).foldl (fun a (x : Value × Nat) => a.setIfInBounds (o + x.2) x.1) bs := by
        rw [← Array.foldl_toList, Array.toList_zipIdx]
      rw [e3]; exact e1
    · exact h.elim
theorem ok_str {P : Program} {t : Nat} (h : TI.str.okB P t = true) : P.underlying t = some .string := by
  simp only [TI.okB, Bool.and_eq_true] at h
  obtain ⟨h1, _⟩ := h
  split at h1
  · assumption
  · cases h1
theorem arrSl_spec {n esz : Nat} {x : AV} {lo hi : Option AV} {K : AV → Prop} (h : arrSl n esz x lo hi K) :
    ∃ cs, x = .ptr cs ∧ lo = none ∧ hi = none ∧ n * esz ≤ cs.length ∧ n ≤ 1048576 ∧ K (.ro esz n fun i => (cs.drop (i * esz)).take esz) := by
  unfold arrSl at h
  split at h
  · obtain ⟨c1, h⟩ := chk_spec h
    obtain ⟨c2, h⟩ := chk_spec h
    exact ⟨_, rfl, rfl, rfl, Nat.le_of_ble_eq_true c1, Nat.le_of_ble_eq_true c2, h⟩
  · exact h.elim
/-- The soundness of the quiet operations. -/
theorem qop_sound (B : Tabs) {g : Bool} {s : St} {op : Op} {K : AV → Prop} (h : qop B g s op K) :
    ∃ y, K y ∧ ∀ cx τ F w (a : Act), g = true → RelA cx τ F s a w → ∃ v, Rep F w τ y v ∧ ∀ (o : Oper), o.op = op → ∀ w', Same F τ w w' → (execOp a.eval o).run B.P w' = .ok (.value v) w' := by
  have hT := B.hT
  unfold qop at h
  split at h
  case h_1 x =>
    obtain ⟨y, hy, hs⟩ := aget_sound h
    exact ⟨y, hy, fun cx τ F w a hg hr => ⟨_, hs F τ w cx.n a hg hr.env, fun o ho w' hb => by simp [execOp, ho]⟩⟩
  case h_2 x =>
    obtain ⟨y, hy, hs⟩ := aget_sound h
    exact ⟨y, hy, fun cx τ F w a hg hr => ⟨_, hs F τ w cx.n a hg hr.env, fun o ho w' hb => by simp [execOp, ho]⟩⟩
  case h_3 c x y =>
    obtain ⟨cv, h, hc⟩ := aget_sound h
    split at h
    · rename_i b
      obtain ⟨xv, h, hx⟩ := aget_sound h
      obtain ⟨yv, h, hy⟩ := aget_sound h
      split at h
      · rename_i p q
        refine ⟨_, h, fun cx τ F w a hg hr => ⟨_, .val _ _, fun o ho w' hb => ?_⟩⟩
        have h1 := hc F τ w cx.n a hg hr.env
        generalize hce : a.eval c = cval at h1
        cases h1
        cases b with
        | true =>
          have h2 := hx F τ w cx.n a (by simp [hg]) hr.env
          generalize hxe : a.eval x = xval at h2
          cases h2
          simp [execOp, ho, asBool, hxe, hce]
        | false =>
          have h2 := hy F τ w cx.n a (by simp [hg]) hr.env
          generalize hxe : a.eval y = xval at h2
          cases h2
          simp [execOp, ho, asBool, hxe, hce]
      · exact h.elim
    · exact h.elim
  case h_4 t x =>
    obtain ⟨xv, h, hx⟩ := aget_sound h
    obtain ⟨y, hy, hs⟩ := loadv_sound hT h
    refine ⟨y, hy, fun cx τ F w a hg hr => ?_⟩
    obtain ⟨v, h1, h2⟩ := hs cx τ F w _ hg hr.wr (hx F τ w cx.n a hg hr.env)
    exact ⟨v, h1, fun o ho w' hb => by simp only [execOp, ho]; exact exec_value (h2 w' hb)⟩
  case h_5 bop t x y t' =>
    obtain ⟨xv, h, hx⟩ := aget_sound h
    obtain ⟨yv, h, hy⟩ := aget_sound h
    obtain ⟨z, hz, hs⟩ := bin_sound hT h
    refine ⟨z, hz, fun cx τ F w a hg hr => ?_⟩
    obtain ⟨v, h1, h2⟩ := hs F τ w _ _ hg (hx F τ w cx.n a hg hr.env) (hy F τ w cx.n a hg hr.env)
    exact ⟨v, h1, fun o ho w' hb => by simp only [execOp, ho]; exact exec_value (h2 w' x y)⟩
  case h_6 uop t x =>
    obtain ⟨xv, h, hx⟩ := aget_sound h
    unfold unv at h
    split at h
    · refine ⟨_, h, fun cx τ F w a hg hr => ⟨_, .val _ _, fun o ho w' hb => ?_⟩⟩
      have h1 := hx F τ w cx.n a hg hr.env
      generalize hxe : a.eval x = xval at h1
      cases h1
      simp [execOp, ho, hxe, Op.unary]
    · refine ⟨_, h, fun cx τ F w a hg hr => ⟨_, .val _ _, fun o ho w' hb => ?_⟩⟩
      have h1 := hx F τ w cx.n a hg hr.env
      generalize hxe : a.eval x = xval at h1
      cases h1
      simp [execOp, ho, hxe, Op.unary, Op.intArith]
    · exact h.elim
  case h_7 t x f =>
    obtain ⟨xv, h, hx⟩ := aget_sound h
    obtain ⟨y, hy, hs⟩ := fieldv_sound hT h
    refine ⟨y, hy, fun cx τ F w a hg hr => ?_⟩
    obtain ⟨v, h1, h2⟩ := hs F τ w _ (hx F τ w cx.n a hg hr.env)
    exact ⟨v, h1, fun o ho w' hb => by simp only [execOp, ho]; exact exec_value (h2 w')⟩
  case h_8 t x i =>
    obtain ⟨xv, h, hx⟩ := aget_sound h
    obtain ⟨iv, h, hi⟩ := aget_sound h
    obtain ⟨y, hy, hs⟩ := indexv_sound hT h
    refine ⟨y, hy, fun cx τ F w a hg hr => ?_⟩
    obtain ⟨v, h1, h2⟩ := hs F τ w _ _ hg (hx F τ w cx.n a hg hr.env) (hi F τ w cx.n a hg hr.env)
    exact ⟨v, h1, fun o ho w' hb => by simp only [execOp, ho]; exact exec_value (h2 w')⟩
  case h_9 t x i =>
    obtain ⟨xv, h, hx⟩ := aget_sound h
    obtain ⟨iv, h, hi⟩ := aget_sound h
    split at h
    · rename_i n esz one cs k i' hl _
      obtain ⟨hk, hg', h⟩ := chk_spec h
      simp only [Bool.and_eq_true] at hk
      obtain ⟨e', fi, _, hu, hfi, hsz, _, _, hone⟩ := ok_array (tabB_look hT hl)
      obtain ⟨d, hd, hagg⟩ := hone hk.1
      have hsz1 : fi.size = 1 := by rw [hsz]; exact Nat.eq_of_beq_eq_true hk.2
      refine ⟨_, h, fun cx τ F w a hg hr => ?_⟩
      obtain ⟨q0, q1, q2⟩ := hg' hg
      have h1 := hx F τ w cx.n a hg hr.env
      have h2 := hi F τ w cx.n a hg hr.env
      generalize hxe : a.eval x = xval at h1
      generalize hie : a.eval i = ival at h2
      cases h2
      cases h1 with
      | agg _ _ vs hl hv =>
        refine ⟨vs.getD i'.toNat undef, hv _ _ (by rw [List.getD_eq_getElem?_getD, List.getElem?_eq_getElem q2]; rfl), fun o ho w' hb => ?_⟩
        have hlt : i'.toNat < vs.size := by omega
        simp only [execOp, ho]
        refine exec_value ?_
        simp [Instr.index, hxe, hie, asIntOf, run_underlying hu, q0, q1, sizeOf_run hfi, hsz1, part, isAgg_run hd, hagg, hlt]
    · exact h.elim
  case h_10 x i =>
    obtain ⟨xv, h, hx⟩ := aget_sound h
    split at h
    · rename_i cs
      obtain ⟨hi, h⟩ := chk_spec h
      have hi : i < cs.length := by simpa [Nat.blt_eq] using hi
      refine ⟨_, h, fun cx τ F w a hg hr => ?_⟩
      have h1 := hx F τ w cx.n a hg hr.env
      generalize hxe : a.eval x = xval at h1
      cases h1 with
      | tup _ _ vs hl hv =>
        refine ⟨vs.getD i undef, hv i _ (by rw [List.getD_eq_getElem?_getD, List.getElem?_eq_getElem hi]; rfl), fun o ho w' hb => ?_⟩
        have hi' : i < vs.size := by omega
        simp [execOp, ho, hxe, Instr.extract, hi']
    · exact h.elim
  case h_11 x =>
    obtain ⟨xv, h, hx⟩ := aget_sound h
    split at h
    · refine ⟨_, h, fun cx τ F w a hg hr => ?_⟩
      have h1 := hx F τ w cx.n a hg hr.env
      generalize hxe : a.eval x = xval at h1
      refine ⟨xval, h1, fun o ho w' hb => ?_⟩
      cases h1
      simp [execOp, ho, hxe]
    · refine ⟨_, h, fun cx τ F w a hg hr => ?_⟩
      have h1 := hx F τ w cx.n a hg hr.env
      generalize hxe : a.eval x = xval at h1
      refine ⟨xval, h1, fun o ho w' hb => ?_⟩
      cases h1
      simp [execOp, ho, hxe]
    · refine ⟨_, h, fun cx τ F w a hg hr => ?_⟩
      have h1 := hx F τ w cx.n a hg hr.env
      generalize hxe : a.eval x = xval at h1
      refine ⟨xval, h1, fun o ho w' hb => ?_⟩
      cases h1
      simp [execOp, ho, hxe]
    · exact h.elim
  case h_12 src dst x =>
    obtain ⟨xv, h, hx⟩ := aget_sound h
    split at h
    · rename_i k1 k2 k3 n hl1 hl2
      have o1 := ok_int (tabB_look hT hl1)
      have o2 := ok_int (tabB_look hT hl2)
      refine ⟨_, h, fun cx τ F w a hg hr => ⟨_, .val _ _, fun o ho w' hb => ?_⟩⟩
      have h1 := hx F τ w cx.n a hg hr.env
      generalize hxe : a.eval x = xval at h1
      cases h1
      simp [execOp, ho, hxe, convert, run_underlying o1, run_underlying o2, Conv.intToInt]
    · rename_i e esz by_ sz n row hl1 hl2
      obtain ⟨hz, h⟩ := chk_spec h
      have hz := Nat.eq_of_beq_eq_true hz
      subst hz
      obtain ⟨fi, o1, _⟩ := ok_slice (tabB_look hT hl1)
      have o2 := ok_str (tabB_look hT hl2)
      split at h
      · rename_i hl3
        have o3 := ok_int (tabB_look hT hl3)
        obtain ⟨hn, hrow, h⟩ := h
        refine ⟨_, h, fun cx τ F w a hg hr => ⟨_, .val _ _, fun o ho w' hb => ?_⟩⟩
        have h1 := hx F τ w cx.n a hg hr.env
        generalize hxe : a.eval x = xval at h1
        cases h1 with
        | ro _ _ _ _ A c f p1 p2 p3 p4 p5 =>
          simp only [execOp, ho, hxe]
          refine exec_value ?_
          rw [run_convert_bytes_string w' src dst e A n c o1 o3 o2]
          cases A with
          | none =>
            have hn0 : n = 0 := by
              rcases Nat.eq_zero_or_pos n with h | h
              · exact h
              · obtain ⟨b, o, hA, _⟩ := p3 h; cases hA
            subst hn0
            simp [Conv.bytesToString, bytesOf]
          | some ad =>
            have key : (loadCells ad n).run B.P w' = .ok (((List.range n).map hn).map (Value.int .u8)).toArray w' := by
              rw [run_loadCells w' ad n (fun j => .int .u8 (hn j)) (fun j hj => ?_)]
              · simp
              · obtain ⟨b, o', hA, hFb, hc⟩ := p3 (by omega)
                injection hA with hA; subst hA
                have hx := hc j 0 hj (by omega)
                rw [add_none, World.cell?_of_block (w := w) (hb b (.inl hFb))]
                have h5 := p5 j 0 (.int .u8 (hn j)) hj (by rw [hrow hg j hj]; rfl)
                generalize hfe : f j 0 = fv at h5
                cases h5
                rw [hfe] at hx
                simpa using hx
            exact run_bytesToString w' ad n c _ key
      · exact h.elim
    · rename_i e esz by_ n c hl1 hl2
      obtain ⟨fi, o1, _⟩ := ok_slice (tabB_look hT hl1)
      have o2 := ok_str (tabB_look hT hl2)
      split at h
      · rename_i hl3
        have o3 := ok_int (tabB_look hT hl3)
        refine ⟨_, h, fun cx τ F w a hg hr => ⟨_, .val _ _, fun o ho w' hb => ?_⟩⟩
        have h1 := hx F τ w cx.n a hg hr.env
        generalize hxe : a.eval x = xval at h1
        cases h1
        simp only [execOp, ho, hxe]
        refine exec_value ?_
        rw [run_convert_bytes_string w' src dst e none n c o1 o3 o2]
        simp [Conv.bytesToString]
      · exact h.elim
    · exact h.elim
  case h_13 t x lo hi =>
    obtain ⟨xv, h, hx⟩ := aget_sound h
    obtain ⟨lv, h, hlo⟩ := agetO_sound h
    obtain ⟨hv, h, hhi⟩ := agetO_sound h
    split at h
    · rename_i e esz by_ hl
      obtain ⟨y, hy, hs⟩ := slicev_sound hT hl h
      refine ⟨y, hy, fun cx τ F w a hg hr => ?_⟩
      obtain ⟨v, h1, h2⟩ := hs F τ w _ (lo.map a.eval) (hi.map a.eval) hg (hx F τ w cx.n a hg hr.env)
        (by rcases hlo F τ w cx.n a hg hr.env with ⟨rfl, rfl⟩ | ⟨xo, z, rfl, rfl, hr⟩
            · exact .inl ⟨rfl, rfl⟩
            · exact .inr ⟨_, _, rfl, rfl, hr⟩)
        (by rcases hhi F τ w cx.n a hg hr.env with ⟨rfl, rfl⟩ | ⟨xo, z, rfl, rfl, hr⟩
            · exact .inl ⟨rfl, rfl⟩
            · exact .inr ⟨_, _, rfl, rfl, hr⟩)
      exact ⟨v, h1, fun o ho w' hb => by simp only [execOp, ho, Option.map_none]; exact exec_value (h2 w')⟩
    · rename_i n esz one hl
      obtain ⟨e, fi, _, hu, hif, hsz, _, _, _⟩ := ok_array (tabB_look hT hl)
      obtain ⟨cs, rfl, rfl, rfl, c1, c2, h⟩ := arrSl_spec h
      · skip
        refine ⟨_, h, fun cx τ F w a hg hr => ?_⟩
        have h1 := hx F τ w cx.n a hg hr.env
        have hlo' : lo.map a.eval = none := by
          rcases hlo F τ w cx.n a hg hr.env with ⟨e, _⟩ | ⟨xo, z, _, hz, _⟩
          · rw [e]; rfl
          · cases hz
        have hhi' : hi.map a.eval = none := by
          rcases hhi F τ w cx.n a hg hr.env with ⟨e, _⟩ | ⟨xo, z, _, hz, _⟩
          · rw [e]; rfl
          · cases hz
        generalize hxe : a.eval x = xval at h1
        cases h1 with
        | ptr _ _ b o f p1 p2 p3 =>
          have hbound : ∀ i j, i < n → j < esz → i * esz + j < cs.length := fun i j hi hj => by
            have : (i + 1) * esz ≤ n * esz := Nat.mul_le_mul_right _ hi
            rw [Nat.add_mul, Nat.one_mul] at this; omega
          refine ⟨.slice (some ⟨b, o, none⟩) n n, ?_, fun op' ho w' hb => ?_⟩
          · refine .ro _ _ _ _ _ _ (fun i j => f (i * esz + j)) (Nat.le_refl _) (by unfold maxLen; omega) (fun hn => ⟨b, o, rfl, p1, fun i j hi hj => ?_⟩) (fun i hi => ?_) (fun i j y hi hy => ?_)
            · rw [Nat.add_assoc]; exact p2 _ (hbound i j hi hj)
            · simp only [List.length_take, List.length_drop]
              have h1 : i * esz + esz ≤ cs.length := by
                have : (i + 1) * esz ≤ n * esz := Nat.mul_le_mul_right _ hi
                rw [Nat.add_mul, Nat.one_mul] at this; omega
              omega
            · rw [List.getElem?_take] at hy
              split at hy
              · rw [List.getElem?_drop] at hy
                exact p3 _ _ hy
              · cases hy
          · simp only [execOp, ho, hxe, hlo', hhi', Option.map_none]
            refine exec_value ?_
            simp [Instr.sliceAt, run_underlying hu, Instr.sureAddr, Instr.sliceBounds, sizeOf_run hif, add_none]
    · exact h.elim
  case h_14 t parts =>
    split at h
    · rename_i size offs zs hl hz
      have hok := tabB_look hT hl
      obtain ⟨fs, i, hu, hi, hsz, hoffs, hsome⟩ := ok_struct hok
      obtain ⟨cs, h, hs⟩ := overlay_sound _ _ h
      refine ⟨_, h, fun cx τ F w a hg hr => ?_⟩
      obtain ⟨vs, h1, h2⟩ := hs F τ w cx.n a hg hr.env zs.toArray (by simp) (fun j x hx => rep_zero hx)
      refine ⟨.agg vs, h2, fun o ho w' hb => ?_⟩
      simp only [execOp, ho]
      refine exec_value ?_
      obtain ⟨i', z, hi', hzz, hzc⟩ := zero_info (B.hZ.at_ hz)
      rw [hi] at hi'; injection hi' with hi'; subst hi'
      have hm : (fs.mapM fun f => do pure (f.offset, ← sizeOf f.type) : Sem (Array (Nat × Nat))).run B.P w' = .ok offs.toArray w' := by
        rw [← hoffs]; exact run_places fs hsome w'
      have hzc' : z.cells = zs.toArray := by rw [← hzc]
      simp only [Instr.build, Sem.run_bind, run_zeroValue hi hzz, Result.andThen_ok, run_underlying hu, hm, hzc']
      have h1' : Instr.fill (fun x => offs.toArray[x]?) zs.toArray (parts.map fun (i, x) => (i, a.eval x)).toList = some vs := by
        have e : (fun x : Nat => offs.toArray[x]?) = fun i => offs[i]? := by funext x; simp
        rw [e, Array.toList_map]; exact h1
      simp only [h1']
      rfl
    · rename_i n esz one zs hl hz
      have hok := tabB_look hT hl
      obtain ⟨e, fi, i, hu, hfi, hesz, hi, _, _⟩ := ok_array hok
      obtain ⟨cs, h, hs⟩ := overlay_sound _ _ h
      refine ⟨_, h, fun cx τ F w a hg hr => ?_⟩
      obtain ⟨vs, h1, h2⟩ := hs F τ w cx.n a hg hr.env zs.toArray (by simp) (fun j x hx => rep_zero hx)
      refine ⟨.agg vs, h2, fun o ho w' hb => ?_⟩
      simp only [execOp, ho]
      refine exec_value ?_
      obtain ⟨i', z, hi', hzz, hzc⟩ := zero_info (B.hZ.at_ hz)
      rw [hi] at hi'; injection hi' with hi'; subst hi'
      have hzc' : z.cells = zs.toArray := by rw [← hzc]
      simp only [Instr.build, Sem.run_bind, run_zeroValue hi hzz, Result.andThen_ok, run_underlying hu, sizeOf_run hfi, hesz, hzc']
      have h1' : Instr.fill (fun i => some (i * esz, esz)) zs.toArray (parts.map fun (i, x) => (i, a.eval x)).toList = some vs := by
        rw [Array.toList_map]; exact h1
      simp only [h1']
      rfl
    · exact h.elim
  case h_15 f first caps =>
    split at h
    · rename_i hf
      obtain ⟨cs, h, hl, hs⟩ := agets_sound h
      refine ⟨_, h, fun cx τ F w a hg hr => ⟨.func (.func f) #[] (caps.map a.eval), .fn _ f cs _ (by simp [hl]) (fun j c hc => ?_), fun o ho w' hb => ?_⟩⟩
      · obtain ⟨x, h1, h2⟩ := hs F τ w cx.n a hg hr.env j c hc
        have h1' : caps[j]? = some x := by simpa using h1
        have : (caps.map a.eval).getD j undef = a.eval x := by simp [Array.getD_eq_getD_getElem?, Array.getElem?_map, h1']
        rw [this]; exact h2
      · have hf' : first = #[] := by cases first; simp_all
        subst hf'
        simp [execOp, ho, Instr.makeFunc]
    · exact h.elim
  case h_16 as ts =>
    split at h
    · rename_i x y has
      obtain ⟨xv, h, hx⟩ := aget_sound h
      obtain ⟨yv, h, hy⟩ := aget_sound h
      have has' : as = #[x, y] := by cases as; simp_all
      subst has'
      unfold minmaxv at h
      split at h
      · obtain ⟨hk, h2⟩ := chk_spec h
        have := ikB_spec hk; subst this
        rename_i k p q _
        refine ⟨_, h2, fun cx τ F w a hg hr => ⟨_, .val _ _, fun o ho w' hb => ?_⟩⟩
        have h1 := hx F τ w cx.n a hg hr.env
        have h3 := hy F τ w cx.n a hg hr.env
        generalize hxe : a.eval x = xval at h1
        generalize hye : a.eval y = yval at h3
        cases h1; cases h3
        have e : (if q < p then q else p) = min p q := by simp only [Int.min_def]; split <;> split <;> omega
        simp [execOp, ho, resolve, invoke, builtin, Builtin.min_, Builtin.min2, hxe, hye, e]
      · exact h.elim
    · exact h.elim
  case h_17 as ts =>
    split at h
    · rename_i x y has
      obtain ⟨xv, h, hx⟩ := aget_sound h
      obtain ⟨yv, h, hy⟩ := aget_sound h
      have has' : as = #[x, y] := by cases as; simp_all
      subst has'
      unfold minmaxv at h
      split at h
      · obtain ⟨hk, h2⟩ := chk_spec h
        have := ikB_spec hk; subst this
        rename_i k p q _
        refine ⟨_, h2, fun cx τ F w a hg hr => ⟨_, .val _ _, fun o ho w' hb => ?_⟩⟩
        have h1 := hx F τ w cx.n a hg hr.env
        have h3 := hy F τ w cx.n a hg hr.env
        generalize hxe : a.eval x = xval at h1
        generalize hye : a.eval y = yval at h3
        cases h1; cases h3
        have e : (if p < q then q else p) = max p q := by simp only [Int.max_def]; split <;> split <;> omega
        simp [execOp, ho, resolve, invoke, builtin, Builtin.max_, Builtin.max2, hxe, hye, e]
      · exact h.elim
    · exact h.elim
  case h_18 as ts =>
    split at h
    · rename_i x t has hts
      obtain ⟨xv, h, hx⟩ := aget_sound h
      split at h
      · rename_i e esz by_ hl
        obtain ⟨fi, hu, _, _, _, _⟩ := ok_slice (tabB_look hT hl)
        have has' : as = #[x] := by cases as; simp_all
        have hts' : ts = #[t] := by cases ts; simp_all
        subst has' hts'
        have key : ∀ (A : Option Addr) (n c : Nat) (a : Act) (o : Oper), o.op = .call { callee := .builtin .len, args := #[x], argTypes := #[t] } → a.eval x = .slice A n c → ∀ w', (execOp a.eval o).run B.P w' = .ok (.value (.int .i64 n)) w' := by
          intro A n c a o ho hxe w'
          simp [execOp, ho, resolve, invoke, builtin, Builtin.len_, hxe, run_underlying hu, goInt]
        unfold lenv at h
        split at h
        · refine ⟨_, h, fun cx τ F w a hg hr => ⟨_, .val _ _, fun o ho w' hb => ?_⟩⟩
          have h1 := hx F τ w cx.n a hg hr.env
          generalize hxe : a.eval x = xval at h1
          cases h1
          exact key _ _ _ a o ho hxe w'
        · refine ⟨_, h, fun cx τ F w a hg hr => ⟨_, .val _ _, fun o ho w' hb => ?_⟩⟩
          have h1 := hx F τ w cx.n a hg hr.env
          generalize hxe : a.eval x = xval at h1
          cases h1
          exact key _ _ _ a o ho hxe w'
        · refine ⟨_, h, fun cx τ F w a hg hr => ⟨_, .val _ _, fun o ho w' hb => ?_⟩⟩
          have h1 := hx F τ w cx.n a hg hr.env
          generalize hxe : a.eval x = xval at h1
          cases h1
          exact key _ _ _ a o ho hxe w'
        · refine ⟨_, h, fun cx τ F w a hg hr => ⟨_, .val _ _, fun o ho w' hb => ?_⟩⟩
          have h1 := hx F τ w cx.n a hg hr.env
          generalize hxe : a.eval x = xval at h1
          cases h1
          exact key _ _ _ a o ho hxe w'
        · exact h.elim
      · exact h.elim
    · exact h.elim
  case h_19 => exact h.elim
end Go.Abs
