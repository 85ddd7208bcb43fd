/- What is known of values, objects and memory; quiet operations, new objects and stores. No condition. -/
import Derived.WalkKit
import Derived.Below
import Derived.Deep.Quiet
import Derived.Laws.Rows
import Derived.Laws.Cells
import Derived.Laws.BytesString
import Derived.Laws.CopyRow
import Derived.Maps.AppendAt
import Derived.Great.FillDense
import Derived.Great.BuildSlice
set_option linter.unusedVariables false
set_option linter.unusedSimpArgs false
namespace Go.Abs
open Go Go.RowKit
structure Nm where
 id : Nat
 ix : List Nat
@[reducible] instance (n : Nat) : OfNat Nm n := ⟨⟨n, []⟩⟩
inductive AV where
 | val (v : Value)
 | agg (cs : List AV)
 | tup (cs : List AV)
 | ro (sz n : Nat) (row : Nat → List AV)
 | ptr (cs : List AV)
 | obj (id : Nm) (off : Nat)
 | sl (id : Nm) (n : Nat)
 | so (id : Nm) (esz off n : Nat)
 | rp (id : Nm) (esz i off : Nat)
 | fn (f : Nat) (cs : List AV)
 | cond (g : Bool) (x : AV)
 | any
@[reducible] def AV.int (k : IntKind) (n : Int) : AV := .val (.int k n)
@[reducible] def AV.bool (b : Bool) : AV := .val (.bool b)
@[reducible] def AV.i64 (n : Int) : AV := .val (.int .i64 n)
inductive Rep (F : Nat → Prop) (w : World) : (Nm → Option Value) → AV → Value → Prop
 | val (τ) (v : Value) : Rep F w τ (.val v) v
 | any (τ) (v : Value) : Rep F w τ .any v
 | condT (τ) (x : AV) (v : Value) : Rep F w τ x v → Rep F w τ (.cond true x) v
 | condF (τ) (x : AV) : Rep F w τ (.cond false x) undef
 | agg (τ) (cs : List AV) (vs : Array Value) : cs.length = vs.size → (∀ j c, cs[j]? = some c → Rep F w τ c (vs.getD j undef)) → Rep F w τ (.agg cs) (.agg vs)
 | tup (τ) (cs : List AV) (vs : Array Value) : cs.length = vs.size → (∀ j c, cs[j]? = some c → Rep F w τ c (vs.getD j undef)) → Rep F w τ (.tup cs) (.tuple vs)
 | ro (τ) (sz n : Nat) (row : Nat → List AV) (A : Option Addr) (c : Nat) (f : Nat → Nat → Value) : n ≤ c → c ≤ maxLen →
   (0 < n → ∃ b o, A = some ⟨b, o, none⟩ ∧ F b ∧ ∀ i j, i < n → j < sz → w.cell? ⟨b, o + i * sz + j, none⟩ = some (f i j)) →
   (∀ i, i < n → (row i).length = sz) → (∀ i j x, i < n → (row i)[j]? = some x → Rep F w (fun _ => none) x (f i j)) → Rep F w τ (.ro sz n row) (.slice A n c)
 | ptr (τ) (cs : List AV) (b o : Nat) (f : Nat → Value) : F b → (∀ j, j < cs.length → w.cell? ⟨b, o + j, none⟩ = some (f j)) →
   (∀ j x, cs[j]? = some x → Rep F w (fun _ => none) x (f j)) → Rep F w τ (.ptr cs) (.pointer (some ⟨b, o, none⟩))
 | fn (τ) (f : Nat) (cs : List AV) (vs : Array Value) : cs.length = vs.size → (∀ j c, cs[j]? = some c → Rep F w τ c (vs.getD j undef)) → Rep F w τ (.fn f cs) (.func (.func f) #[] vs)
 | obj (τ) (id : Nm) (off b : Nat) : τ id = some (.pointer (some ⟨b, 0, none⟩)) → Rep F w τ (.obj id off) (.pointer (some ⟨b, off, none⟩))
 | sl (τ) (id : Nm) (n : Nat) (A : Option Addr) (m c : Nat) : τ id = some (.slice A m c) → n ≤ m → m ≤ c → (0 < m → ∃ b, A = some ⟨b, 0, none⟩) → Rep F w τ (.sl id n) (.slice A n c)
 | so (τ) (id : Nm) (esz off n : Nat) (A : Option Addr) (m c : Nat) (Z : Option Addr) : τ id = some (.slice A m c) → off + n ≤ m → m ≤ c → (0 < m → ∃ b, A = some ⟨b, 0, none⟩) → (c ≠ off → Z = A.map (·.add (off * esz))) → (0 < m → Z ≠ none) → Rep F w τ (.so id esz off n) (.slice Z n (c - off))
 | rp (τ) (id : Nm) (esz i off b m c : Nat) : τ id = some (.slice (some ⟨b, 0, none⟩) m c) → Rep F w τ (.rp id esz i off) (.pointer (some ⟨b, i * esz + off, none⟩))
theorem Rep.mono {F F' : Nat → Prop} {w w' : World} {τ τ' : Nm → Option Value} {x : AV} {v : Value} (h : Rep F w τ x v)
  (hF : ∀ k, F k → F' k) (hw : ∀ k, F k → w'.heap[k]? = w.heap[k]?) (hτ : ∀ id b, τ id = some b → τ' id = some b) : Rep F' w' τ' x v := by
 induction h generalizing τ' with
 | val τ v => exact .val _ v
 | any τ v => exact .any _ v
 | condT τ x v _ ih => exact .condT _ x v (ih hτ)
 | condF τ x => exact .condF _ x
 | agg τ cs vs hl _ ih => exact .agg _ cs vs hl fun j c hc => ih j c hc hτ
 | tup τ cs vs hl _ ih => exact .tup _ cs vs hl fun j c hc => ih j c hc hτ
 | fn τ f cs vs hl _ ih => exact .fn _ f cs vs hl fun j c hc => ih j c hc hτ
 | ro τ sz n row A c f h1 h2 h3 h4 _ ih =>
  refine .ro _ sz n row A c f h1 h2 (fun hn => ?_) h4 fun i j x hi hx => ih i j x hi hx (fun _ _ h => by cases h)
  obtain ⟨b, o, hA, hb, hc⟩ := h3 hn
  exact ⟨b, o, hA, hF b hb, fun i j hi hj => by rw [World.cell?_of_block (w := w) (hw b hb)]; exact hc i j hi hj⟩
 | ptr τ cs b o f h1 h2 _ ih =>
  exact .ptr _ cs b o f (hF b h1) (fun j hj => by rw [World.cell?_of_block (w := w) (hw b h1)]; exact h2 j hj) fun j x hx => ih j x hx (fun _ _ h => by cases h)
 | obj τ id off b hb => exact .obj _ id off b (hτ id _ hb)
 | sl τ id n A m c hb hn hm hA => exact .sl _ id n A m c (hτ id _ hb) hn hm hA
 | so τ id esz off n A m c Z hb hn hm hA hZ hZ2 => exact .so _ id esz off n A m c Z (hτ id _ hb) hn hm hA hZ hZ2
 | rp τ id esz i off b m c hb => exact .rp _ id esz i off b m c (hτ id _ hb)
mutual
def AV.pureB : AV → Bool
 | .val _ | .any | .ro _ _ _ | .ptr _ => true
 | .cond _ x => AV.pureB x
 | .agg cs | .tup cs | .fn _ cs => AV.pureL cs
 | .obj _ _ | .sl _ _ | .so _ _ _ _ | .rp _ _ _ _ => false
def AV.pureL : List AV → Bool
 | [] => true
 | x :: r => AV.pureB x && AV.pureL r
end
theorem pureL_at : ∀ {cs : List AV}, AV.pureL cs = true → ∀ (j : Nat) (x : AV), cs[j]? = some x → x.pureB = true
 | [], _, j, x, h => by simp at h
 | c :: r, hp, j, x, h => by
  simp only [AV.pureL, Bool.and_eq_true] at hp
  cases j with
  | zero => simp at h; subst h; exact hp.1
  | succ j => exact pureL_at hp.2 j x (by simpa using h)
theorem Rep.pure {F : Nat → Prop} {w : World} {τ τ' : Nm → Option Value} {x : AV} {v : Value} (h : Rep F w τ x v) (hp : x.pureB = true) : Rep F w τ' x v := by
 induction h generalizing τ' with
 | val τ v => exact .val _ v
 | any τ v => exact .any _ v
 | condT τ x v _ ih => exact .condT _ x v (ih hp)
 | condF τ x => exact .condF _ x
 | agg τ cs vs hl _ ih => exact .agg _ cs vs hl fun j c hc => ih j c hc (pureL_at (by simpa [AV.pureB] using hp) j c hc)
 | tup τ cs vs hl _ ih => exact .tup _ cs vs hl fun j c hc => ih j c hc (pureL_at (by simpa [AV.pureB] using hp) j c hc)
 | fn τ f cs vs hl _ ih => exact .fn _ f cs vs hl fun j c hc => ih j c hc (pureL_at (by simpa [AV.pureB] using hp) j c hc)
 | ro τ sz n row A c f h1 h2 h3 h4 h5 _ => exact .ro _ sz n row A c f h1 h2 h3 h4 h5
 | ptr τ cs b o f h1 h2 h3 _ => exact .ptr _ cs b o f h1 h2 h3
 | obj τ id off b hb => simp [AV.pureB] at hp
 | sl τ id n A m c hb hn hm hA => simp [AV.pureB] at hp
 | so τ id esz off n A m c Z hb hn hm hA hZ hZ2 => simp [AV.pureB] at hp
 | rp τ id esz i off b m c hb => simp [AV.pureB] at hp
mutual
def AV.refsB (p : Nm → Bool) : AV → Bool
 | .val _ | .any | .ro _ _ _ | .ptr _ => true
 | .cond _ x => AV.refsB p x
 | .agg cs | .tup cs | .fn _ cs => AV.refsL p cs
 | .obj id _ | .sl id _ | .so id _ _ _ | .rp id _ _ _ => p id
def AV.refsL (p : Nm → Bool) : List AV → Bool
 | [] => true
 | x :: r => AV.refsB p x && AV.refsL p r
end
mutual
def AV.refsP (p : Nm → Prop) : AV → Prop
 | .val _ | .any | .ro _ _ _ | .ptr _ => True
 | .cond _ x => AV.refsP p x
 | .agg cs | .tup cs | .fn _ cs => AV.refsPL p cs
 | .obj id _ | .sl id _ | .so id _ _ _ | .rp id _ _ _ => p id
def AV.refsPL (p : Nm → Prop) : List AV → Prop
 | [] => True
 | x :: r => AV.refsP p x ∧ AV.refsPL p r
end
theorem refsPL_at {p : Nm → Prop} : ∀ {cs : List AV}, AV.refsPL p cs → ∀ (j : Nat) (x : AV), cs[j]? = some x → AV.refsP p x
 | [], _, j, x, h => by simp at h
 | c :: r, hp, j, x, h => by
  cases j with
  | zero => simp at h; subst h; exact hp.1
  | succ j => exact refsPL_at hp.2 j x (by simpa using h)
mutual
theorem refsP_of {p : Nm → Bool} {q : Nm → Prop} (hq : ∀ k, p k = true → q k) : ∀ {x : AV}, AV.refsB p x = true → AV.refsP q x
 | .val _, _ => trivial
 | .any, _ => trivial
 | .ro _ _ _, _ => trivial
 | .ptr _, _ => trivial
 | .cond _ x, h => refsP_of hq (x := x) h
 | .agg cs, h => refsPL_of hq (cs := cs) h
 | .tup cs, h => refsPL_of hq (cs := cs) h
 | .fn _ cs, h => refsPL_of hq (cs := cs) h
 | .obj id _, h => hq id h
 | .sl id _, h => hq id h
 | .so id _ _ _, h => hq id h
 | .rp id _ _ _, h => hq id h
theorem refsPL_of {p : Nm → Bool} {q : Nm → Prop} (hq : ∀ k, p k = true → q k) : ∀ {cs : List AV}, AV.refsL p cs = true → AV.refsPL q cs
 | [], _ => trivial
 | x :: r, h => by
  simp only [AV.refsL, Bool.and_eq_true] at h
  exact ⟨refsP_of hq h.1, refsPL_of hq h.2⟩
end
theorem Rep.refs {F : Nat → Prop} {w : World} {τ τ' : Nm → Option Value} {x : AV} {v : Value} {p : Nm → Prop} (h : Rep F w τ x v) (hτ : ∀ id, p id → τ' id = τ id) (hp : AV.refsP p x) : Rep F w τ' x v := by
 induction h generalizing τ' with
 | val τ v => exact .val _ v
 | any τ v => exact .any _ v
 | condT τ x v _ ih => exact .condT _ x v (ih hτ hp)
 | condF τ x => exact .condF _ x
 | agg τ cs vs hl _ ih => exact .agg _ cs vs hl fun j c hc => ih j c hc hτ (refsPL_at hp j c hc)
 | tup τ cs vs hl _ ih => exact .tup _ cs vs hl fun j c hc => ih j c hc hτ (refsPL_at hp j c hc)
 | fn τ f cs vs hl _ ih => exact .fn _ f cs vs hl fun j c hc => ih j c hc hτ (refsPL_at hp j c hc)
 | ro τ sz n row A c f h1 h2 h3 h4 h5 _ => exact .ro _ sz n row A c f h1 h2 h3 h4 h5
 | ptr τ cs b o f h1 h2 h3 _ => exact .ptr _ cs b o f h1 h2 h3
 | obj τ id off b hb => exact .obj _ id off b (by rw [hτ id hp]; exact hb)
 | sl τ id n A m c hb hn hm hA => exact .sl _ id n A m c (by rw [hτ id hp]; exact hb) hn hm hA
 | so τ id esz off n A m c Z hb hn hm hA hZ hZ2 => exact .so _ id esz off n A m c Z (by rw [hτ id hp]; exact hb) hn hm hA hZ hZ2
 | rp τ id esz i off b m c hb => exact .rp _ id esz i off b m c (by rw [hτ id hp]; exact hb)
theorem add_none (b o n : Nat) : (Addr.mk b o none).add n = ⟨b, o + n, none⟩ := by
 unfold Addr.add; split
 ·subst_vars; rfl
 ·rfl
def look {α : Type} : List (Nat × α) → Nat → Option α
 | [], _ => none
 | (k, v) :: r, n => match Nat.beq n k with
  | true => some v
  | false => look r n
theorem look_cons {α : Type} (k : Nat) (v : α) (r : List (Nat × α)) (n : Nat) : look ((k, v) :: r) n = if n = k then some v else look r n := by
 by_cases h : n = k
 ·subst h; simp [look]
 ·have : Nat.beq n k = false := by
   cases e : Nat.beq n k with
   | false => rfl
   | true => exact absurd (Nat.eq_of_beq_eq_true e) h
  simp [look, this, h]
def chk (b : Bool) (K : Prop) : Prop :=
 match b with
 | true => K
 | false => False
theorem chk_spec {b : Bool} {K : Prop} (h : chk b K) : b = true ∧ K := by
 cases b
 ·exact h.elim
 ·exact ⟨rfl, h⟩
inductive Leaf where
 | int | bool | str
 deriving DecidableEq, Inhabited
def szOf (P : Program) (t : Nat) : Nat := ((P.info? t).map (·.size)).getD 0
def leavesF (P : Program) (g : Nat → Option (List Leaf)) : Nat → List Field → Option (List Leaf)
 | _, [] => some []
 | off, fd :: r => match g fd.type with
  | some l => if fd.offset = off ∧ fd.name ≠ "_" ∧ (P.info? fd.type).map (·.size) = some l.length then (leavesF P g (off + l.length) r).map (l ++ ·) else none
  | none => none
def repL (l : List Leaf) : Nat → List Leaf
 | 0 => []
 | n + 1 => l ++ repL l n
def leaves (P : Program) : Nat → Nat → Option (List Leaf)
 | 0, _ => none
 | f + 1, t => match P.underlying t with
  | some .bool => some [.bool]
  | some (.int _) => some [.int]
  | some .string => some [.str]
  | some (.struct fs) => if P.stoodInHeld t then none else match leavesF P (leaves P f) 0 fs.toList with
   | some l => if l.length = 0 then none else some l
   | none => none
  | some (.array n e) => match leaves P f e with
   | some l => if (P.info? e).map (·.size) = some l.length ∧ (repL l n).length ≠ 0 then some (repL l n) else none
   | none => none
  | _ => none
inductive TI where
 | scalar
 | str
 | leaves (t : Nat) (lv : List Leaf)
 | bool
 | int (k : IntKind)
 | slice (e esz bytes : Nat)
 | struct (size : Nat) (offs : List (Nat × Nat))
 | array (n esz : Nat) (one : Bool)
 deriving Inhabited
def TI.okB (P : Program) (t : Nat) : TI → Bool
 | .scalar => (match P.underlying t with | some (.struct _) | some (.array _ _) | none => false | _ => true) && (match P.info? t with | some i => i.size == 1 | none => false)
 | .leaves t lv => (Go.Abs.leaves P 8 t == some lv) && !(P.eqGuardType P.depth t) && (match P.underlying t with | some (.struct _) | some (.array _ _) => true | _ => false)
 | .str => (match P.underlying t with | some .string => true | _ => false) && (match P.info? t with | some i => i.size == 1 | none => false)
 | .bool => (match P.underlying t with | some .bool => true | _ => false) && (match P.info? t with | some i => i.size == 1 | none => false)
 | .int k => (match P.underlying t with | some (.int k') => k' == k | _ => false) && (match P.info? t with | some i => i.size == 1 | none => false)
 | .slice e esz by_ => (match P.underlying t with | some (.slice e') => e' == e | _ => false) && (match P.info? e with | some i => i.size == esz && i.bytes == by_ | none => false) && decide (0 < esz) && (match P.info? t with | some i => i.size == 1 | none => false)
 | .struct size offs => (match P.underlying t with | some (.struct fs) => (fs.toList.map fun f => (f.offset, szOf P f.type)) == offs && fs.toList.all (fun f => (P.info? f.type).isSome) | _ => false) && (match P.info? t with | some i => i.size == size | none => false)
 | .array n esz one => (match P.underlying t with | some (.array n' e) => n' == n && (match P.info? e with | some i => i.size == esz | none => false) && (match P.underlying e with | some (.struct _) | some (.array _ _) | none => !one | _ => true) | _ => false) && (match P.info? t with | some i => i.size == n * esz | none => false)
def TI.one : TI → Bool
 | .scalar | .str | .bool | .int _ | .slice _ _ _ => true
 | _ => false
def TI.aggSize : TI → Nat
 | .struct n _ => n
 | .array n e _ => n * e
 | _ => 1
def TI.szB : TI → Nat → Bool
 | .leaves _ _, _ => false
 | ti, n => Nat.beq ti.aggSize n
theorem szB_spec {ti : TI} {n : Nat} (h : ti.szB n = true) : (∀ t lv, ti ≠ .leaves t lv) ∧ ti.aggSize = n := by
 cases ti with
 | leaves t lv => cases h
 | _ => exact ⟨(fun _ _ e => (by cases e)), Nat.eq_of_beq_eq_true h⟩
def tabB (P : Program) (T : List (Nat × TI)) : Bool := T.all fun x => x.2.okB P x.1
def lookLeaves : List (Nat × TI) → Nat → Option (List Leaf)
 | [], _ => none
 | (_, .leaves t lv) :: r, n => match Nat.beq n t with
  | true => some lv
  | false => lookLeaves r n
 | _ :: r, n => lookLeaves r n
theorem tabB_leaves {P : Program} : ∀ {T : List (Nat × TI)}, tabB P T = true → ∀ {t : Nat} {lv : List Leaf}, lookLeaves T t = some lv → (TI.leaves t lv).okB P 0 = true
 | [], _, _, _, hl => by cases hl
 | (k, x) :: r, h, t, lv, hl => by
  simp only [tabB, List.all_cons, Bool.and_eq_true] at h
  cases x with
  | leaves t0 lv0 =>
   simp only [lookLeaves] at hl
   split at hl
   ·rename_i e
    have := Nat.eq_of_beq_eq_true e; subst this
    injection hl with hl; subst hl; exact h.1
   ·exact tabB_leaves h.2 hl
  | _ => exact tabB_leaves h.2 hl
theorem tabB_look {P : Program} {T : List (Nat × TI)} (h : tabB P T = true) {t : Nat} {ti : TI} (ht : look T t = some ti) : ti.okB P t = true := by
 induction T with
 | nil => cases ht
 | cons x r ih =>
  obtain ⟨k, v⟩ := x
  simp only [tabB, List.all_cons, Bool.and_eq_true] at h
  rw [look_cons] at ht
  split at ht
  ·rename_i hk; injection ht with ht; subst ht; subst hk; exact h.1
  ·exact ih h.2 ht
def zeroCells (P : Program) (t : Nat) : Option (List Value) := ((P.info? t).bind (·.zero)).map (·.cells.toList)
def ZOK (P : Program) : List (Nat × List Value) → Prop
 | [] => True
 | (t, vs) :: r => zeroCells P t = some vs ∧ ZOK P r
theorem ZOK.at_ {P : Program} : ∀ {Z : List (Nat × List Value)}, ZOK P Z → ∀ {t vs}, look Z t = some vs → zeroCells P t = some vs
 | [], _, _, _, h => by cases h
 | (k, vs') :: r, hz, t, vs, h => by
  rw [look_cons] at h
  split at h
  ·rename_i e; subst e; injection h with h; subst h; exact hz.1
  ·exact hz.2.at_ h
structure Tabs where
 P : Program
 T : List (Nat × TI)
 Z : List (Nat × List Value)
 hT : tabB P T = true
 hZ : ZOK P Z
end Go.Abs
namespace Go.Abs
open Go Go.RowKit
inductive HO where
 | cells (cs : List AV)
 | row (e esz n : Nat) (row : Nat → List AV)
 | rows (e esz n : Nat) (row : Nat → List AV)
 | fam (D : List Nat → Prop) (o : List Nat → HO)
def HO.flat : HO → Bool
 | .fam _ _ => false
 | _ => true
structure St where
 env : List (Nat × AV)
 heap : List (Nat × HO)
structure Cx where
 P : Program
 n : Nat
 F : Nat → Prop
 X : Nat → Prop
 w : World
 τ0 : Nm → Option Value
 ds : List Deferred
def HO.at_ (o : HO) (ix : List Nat) : Option HO :=
 match o, ix with
 | .fam _ f, ix => some (f ix)
 | o, [] => some o
 | _, _ => none
def HO.in_ (o : HO) (ix : List Nat) : Prop :=
 match o with
 | .fam D _ => D ix
 | _ => True
def Has (h : List (Nat × HO)) (nm : Nm) (o : HO) : Prop := ∃ x, look h nm.id = some x ∧ x.at_ nm.ix = some o ∧ x.in_ nm.ix
theorem HO.at_flat {o : HO} (h : o.flat = true) {ix : List Nat} {y : HO} : o.at_ ix = some y ↔ ix = [] ∧ y = o := by
 cases o <;> cases ix <;> simp [HO.flat, HO.at_] at * <;> exact eq_comm
theorem HO.in_flat {o : HO} (h : o.flat = true) (ix : List Nat) : o.in_ ix := by
 cases o <;> simp [HO.flat, HO.in_] at *
theorem Has.of_look {h : List (Nat × HO)} {id : Nat} {o : HO} (hl : look h id = some o) (hf : o.flat = true) : Has h ⟨id, []⟩ o := ⟨o, hl, (HO.at_flat hf).2 ⟨rfl, rfl⟩, HO.in_flat hf _⟩
theorem Has.inj {h : List (Nat × HO)} {nm : Nm} {o o' : HO} (h1 : Has h nm o) (h2 : Has h nm o') : o = o' := by
 obtain ⟨x, a, b, _⟩ := h1
 obtain ⟨y, c, d, _⟩ := h2
 rw [a] at c; injection c with c; subst c
 rw [b] at d; injection d
theorem Has.isSome {h : List (Nat × HO)} {nm : Nm} {o : HO} (h1 : Has h nm o) : (look h nm.id).isSome = true := by
 obtain ⟨x, a, _⟩ := h1; rw [a]; rfl
theorem has_cons {h : List (Nat × HO)} {d : Nat} {o : HO} (hf : o.flat = true) {nm : Nm} {y : HO} : Has ((d, o) :: h) nm y ↔ (nm = ⟨d, []⟩ ∧ y = o) ∨ (nm.id ≠ d ∧ Has h nm y) := by
 obtain ⟨id, ix⟩ := nm
 unfold Has
 simp only [look_cons]
 by_cases e : id = d
 ·subst e
  simp only [if_true, Option.some.injEq, Nm.mk.injEq, true_and, ne_eq, not_true, false_and, or_false]
  constructor
  ·rintro ⟨x, rfl, h1, _⟩; exact (HO.at_flat hf).1 h1
  ·rintro ⟨rfl, rfl⟩; exact ⟨_, rfl, (HO.at_flat hf).2 ⟨rfl, rfl⟩, HO.in_flat hf _⟩
 ·simp [e]
theorem has_cons_ex {h : List (Nat × HO)} {d : Nat} {o : HO} (hf : o.flat = true) {nm : Nm} : (∃ y, Has ((d, o) :: h) nm y) ↔ nm = ⟨d, []⟩ ∨ (nm.id ≠ d ∧ ∃ y, Has h nm y) := by
 simp only [has_cons hf]
 constructor
 ·rintro ⟨y, ⟨e, _⟩ | ⟨e, h⟩⟩
  ·exact .inl e
  ·exact .inr ⟨e, y, h⟩
 ·rintro (e | ⟨e, y, h⟩)
  ·exact ⟨o, .inl ⟨e, rfl⟩⟩
  ·exact ⟨y, .inr ⟨e, h⟩⟩
def getO (g : Bool) (h : List (Nat × HO)) (nm : Nm) (K : HO → Prop) : Prop :=
 match look h nm.id with
 | some (.fam D f) => (g = true → D nm.ix) ∧ K (f nm.ix)
 | some o => (match nm.ix with
  | [] => K o
  | _ => False)
 | none => False
theorem getO_sound {g : Bool} {h : List (Nat × HO)} {nm : Nm} {K : HO → Prop} (hk : getO g h nm K) : ∃ o, K o ∧ (g = true → Has h nm o) := by
 obtain ⟨id, ix⟩ := nm
 unfold getO at hk
 split at hk
 ·rename_i D f hl
  exact ⟨_, hk.2, fun hg => ⟨_, hl, rfl, hk.1 hg⟩⟩
 ·rename_i o hne hl
  split at hk
  ·rename_i e
   simp only at e; subst e
   have hf : o.flat = true := by
    cases o with
    | fam D f => exact absurd rfl (hne D f)
    | _ => rfl
   exact ⟨o, hk, fun _ => Has.of_look hl hf⟩
  ·exact hk.elim
 ·exact hk.elim
def hblk : Value → Option Nat
 | .pointer (some a) => some a.block
 | .slice (some a) _ _ => some a.block
 | _ => none
structure Keeps (X : Nat → Prop) (w w' : World) : Prop where
 os : w'.os = w.os
 tape : w'.tape = w.tape
 output : w'.output = w.output
 size : w.heap.size ≤ w'.heap.size
 block : ∀ k, k < w.heap.size → ¬ X k → w'.heap[k]? = w.heap[k]?
theorem Keeps.refl (X : Nat → Prop) (w : World) : Keeps X w w := ⟨rfl, rfl, rfl, Nat.le_refl _, fun _ _ _ => rfl⟩
theorem Keeps.below {X : Nat → Prop} {w w' : World} (h : Keeps X w w') (hX : ∀ k, ¬ X k) : Below w.heap.size w w' := ⟨h.os, h.tape, h.output, h.size, fun k hk => h.block k hk (hX k)⟩
theorem Keeps.of_below {X : Nat → Prop} {w w' : World} (h : Below w.heap.size w w') : Keeps X w w' := ⟨h.os, h.tape, h.output, h.size, fun k hk _ => h.block k hk⟩
theorem Keeps.trans {X : Nat → Prop} {a b c : World} (h : Keeps X a b) (k : Keeps X b c) : Keeps X a c :=
 ⟨k.os.trans h.os, k.tape.trans h.tape, k.output.trans h.output, Nat.le_trans h.size k.size, fun i hi hx => (k.block i (Nat.lt_of_lt_of_le hi h.size) hx).trans (h.block i hi hx)⟩
def HOk (F : Nat → Prop) (w : World) (τ : Nm → Option Value) (o : HO) (v : Value) : Prop :=
 match o with
 | .cells cs => ∃ b c ty, v = .pointer (some ⟨b, 0, none⟩) ∧ w.heap[b]? = some (.cells c ty (0, 0)) ∧ c.size = cs.length ∧ ∀ j x, cs[j]? = some x → Rep F w τ x (c.getD j undef)
 | .row e esz n row => ∃ xs, w.ownsRow 0 e esz v n xs ∧ (∀ i, i < n → (row i).length = esz) ∧ ∀ (i j : Nat) (x : AV), i < n → (row i)[j]? = some x → Rep F w (fun _ => none) x (xs.getD (i * esz + j) undef)
 | .rows e esz n row => ∃ xs, w.ownsRow 0 e esz v n xs ∧ (∀ i, i < n → (row i).length = esz) ∧ ∀ (i j : Nat) (x : AV), i < n → (row i)[j]? = some x → Rep F w τ x (xs.getD (i * esz + j) undef)
 | .fam _ _ => False
structure RelW (cx : Cx) (τ : Nm → Option Value) (F : Nat → Prop) (s : St) (w : World) : Prop where
 keeps : Keeps cx.X cx.w w
 fz : ∀ k, F k → k < w.heap.size
 fne : ∀ k id v, F k → τ id = some v → hblk v ≠ some k
 fsub : ∀ k, F k → cx.F k ∨ cx.w.heap.size ≤ k ∨ cx.X k
 fsup : ∀ k, cx.F k → F k
 tlt : ∀ id v b, τ id = some v → hblk v = some b → (cx.w.heap.size ≤ b ∨ cx.X b) ∧ b < w.heap.size
 inj : ∀ id id' v v' b, τ id = some v → τ id' = some v' → hblk v = some b → hblk v' = some b → id = id'
 obj : ∀ nm o, Has s.heap nm o → ∃ v, τ nm = some v ∧ HOk F w τ o v
 dom : ∀ nm v, τ nm = some v → ∃ o, Has s.heap nm o
 old : ∀ nm v, 1000 ≤ nm.id → τ nm = some v → cx.τ0 nm = some v
 cxn : cx.n ≤ 1000
def EnvR (F : Nat → Prop) (τ : Nm → Option Value) (w : World) (n : Nat) (env : List (Nat × AV)) (tmps : Array Value) : Prop :=
 ∀ t x, look env t = some x → t < n ∧ Rep F w τ x (tmps.getD t undef)
structure RelA (cx : Cx) (τ : Nm → Option Value) (F : Nat → Prop) (s : St) (a : Act) (w : World) : Prop where
 wr : RelW cx τ F s w
 size : a.tmps.size = cx.n
 defers : a.defers = cx.ds
 env : EnvR F τ w cx.n s.env a.tmps
def Rel (cx : Cx) (s : St) (a : Act) (w : World) : Prop := ∃ τ F, RelA cx τ F s a w
theorem HOk.mono {F F' : Nat → Prop} {w w' : World} {τ τ' : Nm → Option Value} {o : HO} {v : Value} (h : HOk F w τ o v)
  (hF : ∀ k, F k → F' k) (hw : ∀ k, F k → w'.heap[k]? = w.heap[k]?) (hτ : ∀ id b, τ id = some b → τ' id = some b) (hv : ∀ b, hblk v = some b → w'.heap[b]? = w.heap[b]?) : HOk F' w' τ' o v := by
 cases o with
 | cells cs =>
  obtain ⟨b, c, ty, rfl, h3, h4, h5⟩ := h
  exact ⟨b, c, ty, rfl, (hv b rfl).trans h3, h4, fun j x hx => (h5 j x hx).mono hF hw hτ⟩
 | row e esz n row =>
  obtain ⟨xs, h1, h2, h3⟩ := h
  refine ⟨xs, ⟨h1.1, ?_⟩, h2, fun i j x hi hx => (h3 i j x hi hx).mono hF hw (fun _ _ h => by cases h)⟩
  rcases h1.2 with h | ⟨g, cap, cur, rfl, q1, q2, q3⟩
  ·exact .inl h
  ·exact .inr ⟨g, cap, cur, rfl, q1, (hv g rfl).trans q2, q3⟩
 | rows e esz n row =>
  obtain ⟨xs, h1, h2, h3⟩ := h
  refine ⟨xs, ⟨h1.1, ?_⟩, h2, fun i j x hi hx => (h3 i j x hi hx).mono hF hw hτ⟩
  rcases h1.2 with h | ⟨g, cap, cur, rfl, q1, q2, q3⟩
  ·exact .inl h
  ·exact .inr ⟨g, cap, cur, rfl, q1, (hv g rfl).trans q2, q3⟩
 | fam D f => exact h.elim
theorem RelA.later {cx : Cx} {τ F s a w w'} (h : RelA cx τ F s a w) (hb : Below w.heap.size w w') : RelA cx τ F s a w' := by
 have hw : ∀ k, F k → w'.heap[k]? = w.heap[k]? := fun k hk => hb.block k (h.wr.fz k hk)
 refine ⟨⟨h.wr.keeps.trans (.of_below hb), fun k hk => Nat.lt_of_lt_of_le (h.wr.fz k hk) hb.size, h.wr.fne, h.wr.fsub, h.wr.fsup, fun id v b hv hk => ⟨(h.wr.tlt id v b hv hk).1, Nat.lt_of_lt_of_le (h.wr.tlt id v b hv hk).2 hb.size⟩, h.wr.inj, fun id o hl => ?_, h.wr.dom, h.wr.old, h.wr.cxn⟩, h.size, h.defers, fun t x ht => ⟨(h.env t x ht).1, (h.env t x ht).2.mono (fun _ h => h) hw (fun _ _ h => h)⟩⟩
 obtain ⟨v, h1, h2⟩ := h.wr.obj id o hl
 exact ⟨v, h1, h2.mono (fun _ h => h) hw (fun _ _ h => h) fun b hv => hb.block b (h.wr.tlt id v b h1 hv).2⟩
theorem RelA.more {cx : Cx} {τ F F' s a w} (h : RelA cx τ F s a w) (hF : ∀ k, F k → F' k) (hz : ∀ k, F' k → k < w.heap.size) (hne : ∀ k id v, F' k → τ id = some v → hblk v ≠ some k) (hsub : ∀ k, F' k → cx.F k ∨ cx.w.heap.size ≤ k ∨ cx.X k) : RelA cx τ F' s a w := by
 refine ⟨⟨h.wr.keeps, hz, hne, hsub, fun k hk => hF k (h.wr.fsup k hk), h.wr.tlt, h.wr.inj, fun id o hl => ?_, h.wr.dom, h.wr.old, h.wr.cxn⟩, h.size, h.defers, fun t x ht => ⟨(h.env t x ht).1, (h.env t x ht).2.mono hF (fun _ _ => rfl) (fun _ _ h => h)⟩⟩
 obtain ⟨v, h1, h2⟩ := h.wr.obj id o hl
 exact ⟨v, h1, h2.mono hF (fun _ _ => rfl) (fun _ _ h => h) fun _ _ => rfl⟩
theorem RelA.put {cx : Cx} {τ F s a w} (h : RelA cx τ F s a w) (d : Nat) (x : AV) (v : Value) (hr : Rep F w τ x v) (hd : d < cx.n) :
  RelA cx τ F { s with env := (d, x) :: s.env } (a.put (some d) v) w := by
 refine ⟨⟨h.wr.keeps, h.wr.fz, h.wr.fne, h.wr.fsub, h.wr.fsup, h.wr.tlt, h.wr.inj, h.wr.obj, h.wr.dom, h.wr.old, h.wr.cxn⟩, by simp [Act.put, h.size], by simp [Act.put, h.defers], fun t y ht => ?_⟩
 rw [look_cons] at ht
 split at ht
 ·rename_i e; subst e
  injection ht with ht; subst ht
  refine ⟨hd, ?_⟩
  have : (a.tmps.setIfInBounds t v).getD t undef = v := by
   have ht : t < a.tmps.size := by rw [h.size]; exact hd
   simp [ht]
  simp only [Act.put]; rw [this]; exact hr
 ·rename_i e
  obtain ⟨h1, h2⟩ := h.env t y ht
  refine ⟨h1, ?_⟩
  have : (a.tmps.setIfInBounds d v).getD t undef = a.tmps.getD t undef := by
   simp only [Array.getD_eq_getD_getElem?]
   rw [Array.getElem?_setIfInBounds_ne (by omega)]
  simp only [Act.put]; rw [this]; exact h2
def uncond (g : Bool) (x : AV) (K : AV → Prop) : Prop :=
 match x with
 | .cond g' y => (g = true → g' = true) ∧ K y
 | y => K y
def aget (g : Bool) (s : St) (x : Operand) (K : AV → Prop) : Prop :=
 match x with
 | .const v => K (.val v)
 | .func f => K (.val (.func (.func f) #[] #[]))
 | .global n => K (.val (.pointer (some ⟨n, 0, none⟩)))
 | .tmp t => match look s.env t with
  | some x => uncond g x K
  | none => False
theorem uncond_sound {g : Bool} {x : AV} {K : AV → Prop} (h : uncond g x K) : ∃ y, K y ∧ ∀ F τ w v, g = true → Rep F w τ x v → Rep F w τ y v := by
 cases x with
 | cond g' y =>
  obtain ⟨h1, h2⟩ := h
  refine ⟨y, h2, fun F τ w v hg hr => ?_⟩
  cases hr with
  | condT _ _ _ hr => exact hr
  | condF => exact absurd (h1 hg) (by simp)
 | _ => exact ⟨_, h, fun _ _ _ _ _ hr => hr⟩
theorem aget_sound {g : Bool} {s : St} {x : Operand} {K : AV → Prop} (h : aget g s x K) :
  ∃ y, K y ∧ ∀ F τ w n (a : Act), g = true → EnvR F τ w n s.env a.tmps → Rep F w τ y (a.eval x) := by
 cases x with
 | const v => exact ⟨_, h, fun F τ w n a _ _ => .val _ v⟩
 | func f => exact ⟨_, h, fun F τ w n a _ _ => .val _ _⟩
 | global m => exact ⟨_, h, fun F τ w n a _ _ => .val _ _⟩
 | tmp t =>
  simp only [aget] at h
  cases hl : look s.env t with
  | none => rw [hl] at h; exact h.elim
  | some x =>
   rw [hl] at h
   obtain ⟨y, hy, hs⟩ := uncond_sound h
   exact ⟨y, hy, fun F τ w n a hg he => hs F τ w _ hg (he t x hl).2⟩
def agets (g : Bool) (s : St) : List Operand → (List AV → Prop) → Prop
 | [], K => K []
 | x :: r, K => aget g s x fun y => agets g s r fun ys => K (y :: ys)
theorem agets_sound {g : Bool} {s : St} {xs : List Operand} : ∀ {K : List AV → Prop}, agets g s xs K →
  ∃ ys, K ys ∧ ys.length = xs.length ∧ ∀ F τ w n (a : Act), g = true → EnvR F τ w n s.env a.tmps → ∀ (j : Nat) (y : AV), (ys : List AV)[j]? = some y → ∃ x, xs[j]? = some x ∧ Rep F w τ y (a.eval x) := by
 induction xs with
 | nil => intro K h; exact ⟨[], h, rfl, fun _ _ _ _ _ _ _ j y hj => by simp at hj⟩
 | cons x r ih =>
  intro K h
  obtain ⟨y, hy, hs⟩ := aget_sound h
  obtain ⟨ys, hys, hl, hss⟩ := ih hy
  refine ⟨y :: ys, hys, by simp [hl], fun F τ w n a hg he j z hj => ?_⟩
  cases j with
  | zero => simp at hj; subst hj; exact ⟨x, rfl, hs F τ w n a hg he⟩
  | succ j => simp at hj; obtain ⟨x', h1, h2⟩ := hss F τ w n a hg he j z hj; exact ⟨x', by simpa using h1, h2⟩
end Go.Abs
namespace Go.Abs
open Go Go.RowKit
def binI (op : BinOp) (k : IntKind) (a b : Int) (K : AV → Prop) : Prop :=
 match op with
 | .add => K (.int k (k.wrap (a + b)))
 | .sub => K (.int k (k.wrap (a - b)))
 | .mul => K (.int k (k.wrap (a * b)))
 | .quo => b ≠ 0 ∧ K (.int k (k.wrap (a.tdiv b)))
 | .rem => b ≠ 0 ∧ K (.int k (a.tmod b))
 | .eql => K (.bool (a == b))
 | .neq => K (.bool (a != b))
 | .lss => K (.bool (decide (a < b)))
 | .leq => K (.bool (decide (a ≤ b)))
 | .gtr => K (.bool (decide (a > b)))
 | .geq => K (.bool (decide (a ≥ b)))
 | .and => K (.int k (bits .and k a b))
 | .or => K (.int k (bits .or k a b))
 | .xor => K (.int k (bits .xor k a b))
 | .andNot => K (.int k (bits .andNot k a b))
 | _ => False
def shiftI (op : BinOp) (k : IntKind) (a b : Int) (K : AV → Prop) : Prop :=
 match op with
 | .shl => 0 ≤ b ∧ K (.int k (k.wrap (a * 2 ^ min b.toNat k.bits)))
 | .shr => 0 ≤ b ∧ K (.int k (a.fdiv (2 ^ min b.toNat k.bits)))
 | _ => False
def BinOp.isShift : BinOp → Bool
 | .shl | .shr => true
 | _ => false
def ikB (a b : IntKind) : Bool := Nat.beq a.ctorIdx b.ctorIdx
theorem ikB_spec {a b : IntKind} (h : ikB a b = true) : a = b := by
 cases a <;> cases b <;> first | rfl | (exact absurd h (by decide))
def binB (op : BinOp) (a b : Bool) (K : AV → Prop) : Prop :=
 match op with
 | .eql => K (.bool (a == b))
 | .neq => K (.bool (a != b))
 | _ => False
def cmpA : List Leaf → List AV → List AV → (Bool → Prop) → Prop
 | [], [], [], K => K true
 | .int :: lv, .val (.int k a) :: xs, .val (.int k' b) :: ys, K => chk (ikB k k') (cmpA lv xs ys fun q => K ((a == b) && q))
 | .bool :: lv, .val (.bool a) :: xs, .val (.bool b) :: ys, K => cmpA lv xs ys fun q => K ((a == b) && q)
 | .str :: lv, .val (.string a) :: xs, .val (.string b) :: ys, K => cmpA lv xs ys fun q => K ((a == b) && q)
 | _, _, _, _ => False
def nilv (op : BinOp) (b : Bool) (K : AV → Prop) : Prop :=
 match op with
 | .eql => K (.bool b)
 | .neq => K (.bool (!b))
 | _ => False
def strv (op : BinOp) (a b : ByteArray) (K : AV → Prop) : Prop :=
 match op with
 | .eql => K (.bool (a.toList == b.toList))
 | .neq => K (.bool (!(a.toList == b.toList)))
 | .add => a.size + b.size ≤ 4611686018427387904 ∧ K (.val (.string (a ++ b)))
 | _ => False
def bin (T : List (Nat × TI)) (g : Bool) (op : BinOp) (t : Nat) (x y : AV) (K : AV → Prop) : Prop :=
 match x, y with
 | .val (.bool a), .val (.bool b) => (match look T t with
  | some .bool => binB op a b K
  | _ => False)
 | .val (.int k a), .val (.int k' b) => match BinOp.isShift op with
  | true => shiftI op k a b (fun r => (g = true → 0 ≤ b) ∧ K r)
  | false => chk (ikB k k') (binI op k a b K)
 | .agg xs, .agg ys => (match lookLeaves T t with
  | some lv => cmpA lv xs ys fun q => match op with
   | .eql => K (.bool q)
   | .neq => K (.bool (!q))
   | _ => False
  | none => False)
 | .val (.string a), .val (.string b) => strv op a b K
 | .val (.slice A _ _), .val (.slice none _ _) => (match look T t with
  | some (.slice _ _ _) => nilv op A.isNone K
  | _ => False)
 | .ro _ n _, .val (.slice none _ _) => (match look T t with
  | some (.slice _ _ _) => (g = true → 0 < n) ∧ nilv op false K
  | _ => False)
 | .sl _ n, .val (.slice none _ _) => (match look T t with
  | some (.slice _ _ _) => (g = true → 0 < n) ∧ nilv op false K
  | _ => False)
 | _, _ => False
theorem binI_sound {op : BinOp} {k : IntKind} {a b : Int} {K : AV → Prop} {t : Nat} (hs : BinOp.isShift op = false) (h : binI op k a b K) :
  ∃ y, K y ∧ ∀ F τ w, ∃ v, Rep F w τ y v ∧ ∀ P w', (binOp op t (.int k a) (.int k b)).run P w' = .ok v w' := by
 cases op <;> first | (exact absurd hs (by decide)) | skip
 all_goals simp only [binI] at h
 all_goals clear hs
 case quo =>
  exact ⟨_, h.2, fun F τ w => ⟨_, .val _ _, fun P w' => by rw [binOp_quo]; simp [Op.intDiv, h.1]⟩⟩
 case rem =>
  exact ⟨_, h.2, fun F τ w => ⟨_, .val _ _, fun P w' => by rw [binOp_rem]; simp [Op.intDiv, h.1]⟩⟩
 all_goals exact ⟨_, h, fun F τ w => ⟨_, .val _ _, fun P w' => by simp [binOp_add, binOp_sub, binOp_mul, binOp_eql, binOp_neq, binOp_lss, binOp_leq, binOp_gtr, binOp_geq, binOp_and, binOp_or, binOp_xor, binOp_andNot, Op.intArith, intBits_and, intBits_or, intBits_xor, intBits_andNot]⟩⟩
def cellsAt (g : Bool) (s : St) (x : AV) (K : List AV → Prop) : Prop :=
 match x with
 | .rp id esz i off => getO g s.heap id fun o => match o with
  | .row _ esz' n row => chk (Nat.beq esz esz') ((g = true → i < n) ∧ K ((row i).drop off))
  | .rows _ esz' n row => chk (Nat.beq esz esz') ((g = true → i < n) ∧ K ((row i).drop off))
  | _ => False
 | .ptr cs => K cs
 | .obj id off => getO g s.heap id fun o => match o with
  | .cells cs => K (cs.drop off)
  | _ => False
 | _ => False
def loadv (T : List (Nat × TI)) (g : Bool) (s : St) (t : Nat) (x : AV) (K : AV → Prop) : Prop :=
 cellsAt g s x fun cs => match look T t with
  | some (.struct size _) => chk (Nat.ble size cs.length) (K (.agg (cs.take size)))
  | some (.array n e _) => chk (Nat.ble (n * e) cs.length) (K (.agg (cs.take (n * e))))
  | some (.leaves _ _) => False
  | some _ => chk (Nat.blt 0 cs.length) (K (cs.headD .any))
  | none => False
def fieldv (T : List (Nat × TI)) (t f : Nat) (x : AV) (K : AV → Prop) : Prop :=
 match look T t with
 | some (.struct _ offs) => match offs[f]? with
  | some (o, sz) => chk (!Nat.beq sz 0) (match x with
   | .ptr cs => K (.ptr (cs.drop o))
   | .obj id off => K (.obj id (off + o))
   | .rp id esz i off => K (.rp id esz i (off + o))
   | _ => False)
  | none => False
 | _ => False
def intsOf : List AV → Option (IntKind × List Int)
 | [] => none
 | .val (.int k a) :: r => (match r with
  | [] => some (k, [a])
  | r => match intsOf r with
   | some (k', l) => (match ikB k k' with
    | true => some (k, a :: l)
    | false => none)
   | none => none)
 | _ => none
def indexv (T : List (Nat × TI)) (g : Bool) (t : Nat) (x i : AV) (K : AV → Prop) : Prop :=
 match look T t, x, i with
 | some (.slice _ esz _), .sl id n, .val (.int _ i) => (g = true → 0 ≤ i ∧ i < (n : Int)) ∧ K (.rp id esz i.toNat 0)
 | some (.slice _ esz _), .so id z off n, .val (.int _ i) => chk (Nat.beq z esz) ((g = true → 0 ≤ i ∧ i < (n : Int)) ∧ K (.rp id esz (off + i.toNat) 0))
 | some (.slice _ esz _), .ro sz n row, .val (.int _ i) => chk (Nat.beq sz esz) ((g = true → 0 ≤ i ∧ i < (n : Int)) ∧ K (.ptr (row i.toNat)))
 | some (.array n esz _), .ptr cs, .val (.int _ i) => (g = true → 0 ≤ i ∧ i < (n : Int)) ∧ (match Nat.beq esz 1 && Nat.ble n cs.length, intsOf (cs.take n) with
  | true, some (k, l) => K (.ptr [.val (.int k (l.getD i.toNat 0))])
  | _, _ => K (.ptr (cs.drop (i.toNat * esz))))
 | some (.array n esz _), .obj id off, .val (.int _ i) => (g = true → 0 ≤ i ∧ i < (n : Int)) ∧ K (.obj id (off + i.toNat * esz))
 | _, _, _ => False
def lenv (x : AV) (K : AV → Prop) : Prop :=
 match x with
 | .ro _ n _ => K (.i64 n)
 | .val (.slice _ n _) => K (.i64 n)
 | .sl _ n => K (.i64 n)
 | .so _ _ _ n => K (.i64 n)
 | _ => False
def unv (op : UnOp) (x : AV) (K : AV → Prop) : Prop :=
 match op, x with
 | .not, .val (.bool b) => K (.bool (!b))
 | .neg, .val (.int k n) => K (.int k (k.wrap (0 - n)))
 | _, _ => False
def boundv (x : Option AV) (dflt : Int) (K : Int → Prop) : Prop :=
 match x with
 | none => K dflt
 | some (.val (.int _ i)) => K i
 | _ => False
def slicev (g : Bool) (esz : Nat) (x : AV) (lo hi : Option AV) (K : AV → Prop) : Prop :=
 match x with
 | .ro sz n row => boundv lo 0 fun l => boundv hi n fun h => chk (Nat.beq sz esz) ((g = true → 0 ≤ l ∧ l ≤ h ∧ h ≤ (n : Int)) ∧ K (.ro sz (h - l).toNat (fun j => row (l.toNat + j))))
 | .sl id n => match lo with
  | none => boundv hi n fun h => (g = true → 0 ≤ h ∧ h ≤ (n : Int)) ∧ K (.sl id h.toNat)
  | some _ => boundv lo 0 fun l => boundv hi n fun h => (g = true → 0 ≤ l ∧ l ≤ h ∧ h ≤ (n : Int)) ∧ K (.so id esz l.toNat (h - l).toNat)
 | .so id z off n => boundv lo 0 fun l => boundv hi n fun h => chk (Nat.beq z esz) ((g = true → 0 ≤ l ∧ l ≤ h ∧ h ≤ (n : Int)) ∧ K (.so id esz (off + l.toNat) (h - l).toNat))
 | _ => False
def arrSl (n esz : Nat) (x : AV) (lo hi : Option AV) (K : AV → Prop) : Prop :=
 match x, lo, hi with
 | .ptr cs, none, none => chk (Nat.ble (n * esz) cs.length) (chk (Nat.ble n 1048576) (K (.ro esz n fun i => (cs.drop (i * esz)).take esz)))
 | _, _, _ => False
def agetO (g : Bool) (s : St) (x : Option Operand) (K : Option AV → Prop) : Prop :=
 match x with
 | none => K none
 | some x => aget g s x fun y => K (some y)
def cellsV (x : AV) (K : List AV → Prop) : Prop :=
 match x with
 | .agg cs => K cs
 | .val v => chk v.oneCell' (K [.val v])
 | .ro sz n row => K [.ro sz n row]
 | .ptr cs => K [.ptr cs]
 | .obj id off => K [.obj id off]
 | .sl id n => K [.sl id n]
 | .so id esz off n => K [.so id esz off n]
 | .rp id esz i off => K [.rp id esz i off]
 | .fn f cs => K [.fn f cs]
 | _ => False
def overlay (g : Bool) (s : St) (place : Nat → Option (Nat × Nat)) : List (Nat × Operand) → List AV → (List AV → Prop) → Prop
 | [], base, K => K base
 | (i, x) :: r, base, K => match place i with
  | some (o, sz) => aget g s x fun xv => cellsV xv fun cs => chk (Nat.beq cs.length sz) (chk (Nat.ble (o + sz) base.length) (overlay g s place r (base.take o ++ cs ++ base.drop (o + sz)) K))
  | none => False
def minmaxv (mx : Bool) (x y : AV) (K : AV → Prop) : Prop :=
 match x, y with
 | .val (.int k a), .val (.int k' b) => chk (ikB k k') (K (.int k (match mx with
  | true => max a b
  | false => min a b)))
 | _, _ => False
def bytesOf (ns : List Int) : ByteArray := ns.foldl (fun s n => s.push (UInt8.ofNat n.toNat)) ByteArray.empty
def qop (B : Tabs) (g : Bool) (s : St) (op : Op) (K : AV → Prop) : Prop :=
 match op with
 | .move x | .assign x => aget g s x K
 | .pick c x y => aget g s c fun cv => match cv with
  | .val (.bool b) => aget (g && b) s x fun xv => aget (g && !b) s y fun yv => (match xv, yv with
   | .val (.bool p), .val (.bool q) => K (.bool (bif b then p else q))
   | _, _ => False)
  | _ => False
 | .load t x => aget g s x fun xv => loadv B.T g s t xv K
 | .binOp op t x y _ => aget g s x fun xv => aget g s y fun yv => bin B.T g op t xv yv K
 | .unOp op _ x => aget g s x fun xv => unv op xv K
 | .fieldAddr t x f => aget g s x fun xv => fieldv B.T t f xv K
 | .indexAddr t x i => aget g s x fun xv => aget g s i fun iv => indexv B.T g t xv iv K
 | .index t x i => aget g s x fun xv => aget g s i fun iv => (match look B.T t, xv, iv with
  | some (.array n esz one), .agg cs, .val (.int _ i) => chk (one && Nat.beq esz 1) ((g = true → 0 ≤ i ∧ i < (n : Int) ∧ i.toNat < cs.length) ∧ K (cs.getD i.toNat .any))
  | _, _, _ => False)
 | .extract x i => aget g s x fun xv => match xv with
  | .tup cs => chk (Nat.blt i cs.length) (K (cs.getD i .any))
  | _ => False
 | .nilCheck x => aget g s x fun xv => match xv with
  | .ptr cs => K (.ptr cs)
  | .obj id off => K (.obj id off)
  | .rp id esz i off => K (.rp id esz i off)
  | _ => False
 | .convert src dst x => aget g s x fun xv => match look B.T src, look B.T dst, xv with
  | some (.int _), some (.int k), .val (.int _ n) => K (.int k (k.wrap n))
  | some (.slice e _ _), some .str, .ro sz n row => chk (Nat.beq sz 1) (match look B.T e with
   | some (.int .u8) => ∃ h : Nat → Int, (g = true → ∀ i, i < n → row i = [.int .u8 (h i)]) ∧ K (.val (.string (bytesOf ((List.range n).map h))))
   | _ => False)
  | some (.slice e _ _), some .str, .val (.slice none _ _) => (match look B.T e with
   | some (.int .u8) => K (.val (.string .empty))
   | _ => False)
  | _, _, _ => False
 | .slice t x lo hi none => aget g s x fun xv => agetO g s lo fun lv => agetO g s hi fun hv => (match look B.T t with | some (.slice _ esz _) => slicev g esz xv lv hv K | some (.array n esz _) => arrSl n esz xv lv hv K | _ => False)
 | .build t parts => (match look B.T t, look B.Z t with
  | some (.struct _ offs), some zs => overlay g s (fun i => offs[i]?) parts.toList (zs.map .val) fun cs => K (.agg cs)
  | some (.array _ esz _), some zs => overlay g s (fun i => some (i * esz, esz)) parts.toList (zs.map .val) fun cs => K (.agg cs)
  | _, _ => False)
 | .makeFunc (.func f) first caps => (match first.toList with
  | [] => agets g s caps.toList fun cs => K (.fn f cs)
  | _ => False)
 | .call { callee := .builtin .min, args := as, argTypes := _ } => (match as.toList with
  | [x, y] => aget g s x fun xv => aget g s y fun yv => minmaxv false xv yv K
  | _ => False)
 | .call { callee := .builtin .max, args := as, argTypes := _ } => (match as.toList with
  | [x, y] => aget g s x fun xv => aget g s y fun yv => minmaxv true xv yv K
  | _ => False)
 | .call { callee := .builtin .len, args := as, argTypes := ts } => match as.toList, ts.toList with
  | [x], [t] => aget g s x fun xv => (match look B.T t with | some (.slice _ _ _) => lenv xv K | _ => False)
  | _, _ => False
 | _ => False
end Go.Abs
namespace Go.Abs
open Go Go.RowKit
set_option linter.unusedVariables false
def aggB : TypeDesc → Bool
 | .struct _ | .array _ _ => true
 | _ => false
def KnownAt (F : Nat → Prop) (τ : Nm → Option Value) (w : World) (cs : List AV) (b o : Nat) : Prop :=
 (F b ∨ ∃ nm v, τ nm = some v ∧ hblk v = some b) ∧ ∃ f : Nat → Value, (∀ j, j < cs.length → w.cell? ⟨b, o + j, none⟩ = some (f j)) ∧ ∀ j x, cs[j]? = some x → Rep F w τ x (f j)
def Same (F : Nat → Prop) (τ : Nm → Option Value) (w w' : World) : Prop := ∀ b, (F b ∨ ∃ nm v, τ nm = some v ∧ hblk v = some b) → w'.heap[b]? = w.heap[b]?
theorem Same.refl (F : Nat → Prop) (τ : Nm → Option Value) (w : World) : Same F τ w w := fun _ _ => rfl
theorem RelW.same {cx τ F s w w'} (h : RelW cx τ F s w) (hb : Below w.heap.size w w') : Same F τ w w' := fun b hk => by
 rcases hk with hk | ⟨nm, v, h1, h2⟩
 ·exact hb.block b (h.fz b hk)
 ·exact hb.block b (h.tlt nm v b h1 h2).2
theorem RelW.obj_known {cx τ F s w} (h : RelW cx τ F s w) {id : Nm} {cs : List AV} (hl : Has s.heap id (.cells cs)) (off : Nat) {b : Nat} (hb : τ id = some (.pointer (some ⟨b, 0, none⟩))) : KnownAt F τ w (cs.drop off) b off := by
 obtain ⟨v, h1, b', c, ty, rfl, h3, h4, h5⟩ := h.obj id _ hl
 rw [hb] at h1; injection h1 with h1; injection h1 with h1; injection h1 with h1; injection h1 with h1; subst h1
 refine ⟨.inr ⟨id, _, hb, rfl⟩, fun j => c.getD (off + j) undef, fun j hj => ?_, fun j x hx => ?_⟩
 ·rw [cell_of_row _ _ _ _ _ _ h3]
  have : off + j < c.size := by rw [h4]; simp at hj; omega
  simp [this]
 ·exact h5 (off + j) x (by rw [List.getElem?_drop] at hx; exact hx)
theorem row_known {F : Nat → Prop} {τ : Nm → Option Value} {w : World} {e esz n b m c : Nat} {row : Nat → List AV} (h : HOk F w τ (.row e esz n row) (.slice (some ⟨b, 0, none⟩) m c)) {i : Nat} (hi : i < n) (off : Nat) (hlt : F b ∨ ∃ nm v, τ nm = some v ∧ hblk v = some b) : KnownAt F τ w ((row i).drop off) b (i * esz + off) := by
 obtain ⟨xs, h1, h2, h3⟩ := h
 rcases h1.2 with ⟨h, _⟩ | ⟨g, cap, cur, hv, _, hg, hnc, hcm, hcs, htk⟩
 ·cases h
 ·simp only [Value.slice.injEq, Option.some.injEq, Addr.mk.injEq, and_true] at hv
  obtain ⟨rfl, rfl, rfl⟩ := hv
  have hbound : ∀ j, j < esz → i * esz + j < m * esz := fun j hj => by
   have : (i + 1) * esz ≤ m * esz := Nat.mul_le_mul_right _ hi
   rw [Nat.add_mul, Nat.one_mul] at this; omega
  refine ⟨hlt, fun j => xs.getD (i * esz + (off + j)) undef, fun j hj => ?_, fun j x hx => ?_⟩
  ·have hj' : off + j < esz := by have := h2 i hi; simp at hj; omega
   have hb := hbound (off + j) hj'
   rw [cell_of_row _ _ _ _ _ _ hg, Nat.add_assoc]
   have hx : cur[i * esz + (off + j)]? = xs[i * esz + (off + j)]? := by
    rw [← htk, List.getElem?_take, if_pos hb]; simp
   rw [hx]
   have : i * esz + (off + j) < xs.length := by rw [h1.1]; exact hb
   simp [List.getElem?_eq_getElem this]
  ·exact (h3 i (off + j) x hi (by rw [List.getElem?_drop] at hx; exact hx)).mono (fun _ h => h) (fun _ _ => rfl) (fun _ _ h => by cases h)
theorem rows_known {F : Nat → Prop} {τ : Nm → Option Value} {w : World} {e esz n b m c : Nat} {row : Nat → List AV} (h : HOk F w τ (.rows e esz n row) (.slice (some ⟨b, 0, none⟩) m c)) {i : Nat} (hi : i < n) (off : Nat) (hlt : F b ∨ ∃ nm v, τ nm = some v ∧ hblk v = some b) : KnownAt F τ w ((row i).drop off) b (i * esz + off) := by
 obtain ⟨xs, h1, h2, h3⟩ := h
 rcases h1.2 with ⟨h, _⟩ | ⟨g, cap, cur, hv, _, hg, hnc, hcm, hcs, htk⟩
 ·cases h
 ·simp only [Value.slice.injEq, Option.some.injEq, Addr.mk.injEq, and_true] at hv
  obtain ⟨rfl, rfl, rfl⟩ := hv
  have hbound : ∀ j, j < esz → i * esz + j < m * esz := fun j hj => by
   have : (i + 1) * esz ≤ m * esz := Nat.mul_le_mul_right _ hi
   rw [Nat.add_mul, Nat.one_mul] at this; omega
  refine ⟨hlt, fun j => xs.getD (i * esz + (off + j)) undef, fun j hj => ?_, fun j x hx => ?_⟩
  ·have hj' : off + j < esz := by have := h2 i hi; simp at hj; omega
   have hb := hbound (off + j) hj'
   rw [cell_of_row _ _ _ _ _ _ hg, Nat.add_assoc]
   have hx : cur[i * esz + (off + j)]? = xs[i * esz + (off + j)]? := by
    rw [← htk, List.getElem?_take, if_pos hb]; simp
   rw [hx]
   have : i * esz + (off + j) < xs.length := by rw [h1.1]; exact hb
   simp [List.getElem?_eq_getElem this]
  ·exact h3 i (off + j) x hi (by rw [List.getElem?_drop] at hx; exact hx)
theorem cellsAt_sound {g : Bool} {s : St} {x : AV} {K : List AV → Prop} (h : cellsAt g s x K) :
  ∃ cs, K cs ∧ ∀ cx τ F w u, g = true → RelW cx τ F s w → Rep F w τ x u → ∃ b o, u = .pointer (some ⟨b, o, none⟩) ∧ KnownAt F τ w cs b o := by
 unfold cellsAt at h
 split at h
 ·rename_i id esz i off
  obtain ⟨o, h, hH⟩ := getO_sound h
  split at h
  ·rename_i e esz' n row
   obtain ⟨hz, hg, h2⟩ := chk_spec h
   have hzz := Nat.eq_of_beq_eq_true hz
   subst hzz
   refine ⟨_, h2, fun cx τ F w u hgt hw hr => ?_⟩
   cases hr with
   | rp _ _ _ _ _ b m c hb =>
    obtain ⟨v, h1, ho⟩ := hw.obj id _ (hH hgt)
    rw [hb] at h1; injection h1 with h1; subst h1
    exact ⟨b, _, rfl, row_known ho (hg hgt) off (.inr ⟨id, _, hb, rfl⟩)⟩
  ·rename_i e esz' n row
   obtain ⟨hz, hg, h2⟩ := chk_spec h
   have hzz := Nat.eq_of_beq_eq_true hz
   subst hzz
   refine ⟨_, h2, fun cx τ F w u hgt hw hr => ?_⟩
   cases hr with
   | rp _ _ _ _ _ b m c hb =>
    obtain ⟨v, h1, ho⟩ := hw.obj id _ (hH hgt)
    rw [hb] at h1; injection h1 with h1; subst h1
    exact ⟨b, _, rfl, rows_known ho (hg hgt) off (.inr ⟨id, _, hb, rfl⟩)⟩
  ·exact h.elim
 ·rename_i cs
  refine ⟨cs, h, fun cx τ F w u hgt hw hr => ?_⟩
  cases hr with
  | ptr _ _ b o f h1 h2 h3 => exact ⟨b, o, rfl, .inl h1, f, h2, fun j x hx => (h3 j x hx).mono (fun _ h => h) (fun _ _ => rfl) (fun _ _ h => by cases h)⟩
 ·rename_i id off
  obtain ⟨o, h, hH⟩ := getO_sound h
  split at h
  ·rename_i cs
   refine ⟨_, h, fun cx τ F w u hgt hw hr => ?_⟩
   cases hr with
   | obj _ _ _ b hb => exact ⟨b, off, rfl, hw.obj_known (hH hgt) off hb⟩
  ·exact h.elim
 ·exact h.elim
theorem KnownAt.cell {F τ w w' cs b o} (h : KnownAt F τ w cs b o) (hb : Same F τ w w') : ∃ f : Nat → Value, (∀ j, j < cs.length → w'.cell? ⟨b, o + j, none⟩ = some (f j)) ∧ ∀ j x, cs[j]? = some x → Rep F w τ x (f j) := by
 obtain ⟨h1, f, h2, h3⟩ := h
 exact ⟨f, fun j hj => by rw [World.cell?_of_block (w := w) (hb b h1)]; exact h2 j hj, h3⟩
theorem isAgg_run {P : Program} {t : Nat} {d : TypeDesc} (h : P.underlying t = some d) (w : World) : (isAgg t).run P w = .ok (aggB d) w := by
 simp only [isAgg, Sem.run_bind, run_underlying h, Result.andThen_ok]
 cases d <;> rfl
theorem sizeOf_run {P : Program} {t : Nat} {i : TypeInfo} (h : P.info? t = some i) (w : World) : (sizeOf t).run P w = .ok i.size w := by
 simp [sizeOf, typeInfo, h]
theorem ok_struct {P : Program} {t size : Nat} {offs : List (Nat × Nat)} (h : (TI.struct size offs).okB P t = true) :
  ∃ fs i, P.underlying t = some (.struct fs) ∧ P.info? t = some i ∧ i.size = size ∧ (fs.toList.map fun f => (f.offset, szOf P f.type)) = offs ∧ ∀ f ∈ fs.toList, (P.info? f.type).isSome = true := by
 simp only [TI.okB, Bool.and_eq_true] at h
 obtain ⟨h1, h2⟩ := h
 split at h1
 ·rename_i fs hu
  split at h2
  ·rename_i i hi
   simp only [Bool.and_eq_true, beq_iff_eq, List.all_eq_true] at h1 h2
   exact ⟨fs, i, hu, hi, h2, h1.1, h1.2⟩
  ·cases h2
 ·cases h1
theorem ok_array {P : Program} {t n esz : Nat} {one : Bool} (h : (TI.array n esz one).okB P t = true) :
  ∃ e i j, P.underlying t = some (.array n e) ∧ P.info? e = some i ∧ i.size = esz ∧ P.info? t = some j ∧ j.size = n * esz ∧ (one = true → ∃ d, P.underlying e = some d ∧ aggB d = false) := by
 simp only [TI.okB, Bool.and_eq_true] at h
 obtain ⟨h1, h2⟩ := h
 split at h1
 ·rename_i n' e hu
  split at h2
  ·rename_i j hj
   simp only [Bool.and_eq_true, beq_iff_eq] at h1 h2
   obtain ⟨⟨rfl, h1⟩, h3⟩ := h1
   split at h1
   ·rename_i i hi
    refine ⟨e, i, j, hu, hi, by simpa using h1, hj, h2, fun ho => ?_⟩
    subst ho
    cases hue : P.underlying e with
    | none => rw [hue] at h3; simp at h3
    | some d => refine ⟨d, rfl, ?_⟩; rw [hue] at h3; cases d <;> simp_all [aggB]
   ·cases h1
  ·cases h2
 ·cases h1
theorem ok_slice {P : Program} {t e esz by_ : Nat} (h : (TI.slice e esz by_).okB P t = true) : ∃ i, P.underlying t = some (.slice e) ∧ P.info? e = some i ∧ i.size = esz ∧ 0 < esz ∧ i.bytes = by_ := by
 simp only [TI.okB, Bool.and_eq_true] at h
 obtain ⟨⟨⟨h1, h2⟩, h3⟩, _⟩ := h
 split at h1
 ·rename_i e' hu
  split at h2
  ·rename_i i hi
   simp only [beq_iff_eq, Bool.and_eq_true] at h1 h2
   subst h1
   exact ⟨i, hu, hi, h2.1, by simpa using h3, h2.2⟩
  ·cases h2
 ·cases h1
theorem ok_int {P : Program} {t : Nat} {k : IntKind} (h : (TI.int k).okB P t = true) : P.underlying t = some (.int k) := by
 simp only [TI.okB, Bool.and_eq_true] at h
 obtain ⟨h1, _⟩ := h
 split at h1
 ·rename_i k' hu; simp only [beq_iff_eq] at h1; subst h1; exact hu
 ·cases h1
theorem ok_bool {P : Program} {t : Nat} (h : TI.bool.okB P t = true) : P.underlying t = some .bool := by
 simp only [TI.okB, Bool.and_eq_true] at h
 obtain ⟨h1, _⟩ := h
 split at h1
 ·assumption
 ·cases h1
theorem ok_one {P : Program} {t : Nat} {ti : TI} (ho : ti.one = true) (h : ti.okB P t = true) : ∃ d, P.underlying t = some d ∧ aggB d = false := by
 cases ti with
 | scalar =>
  simp only [TI.okB, Bool.and_eq_true] at h
  cases hu : P.underlying t with
  | none => rw [hu] at h; simp at h
  | some d => refine ⟨d, rfl, ?_⟩; rw [hu] at h; cases d <;> simp_all [aggB]
 | str =>
  simp only [TI.okB, Bool.and_eq_true] at h
  obtain ⟨h, _⟩ := h
  split at h
  ·rename_i hu; exact ⟨_, hu, rfl⟩
  ·cases h
 | int k => exact ⟨_, ok_int h, rfl⟩
 | bool => exact ⟨_, ok_bool h, rfl⟩
 | slice e n _ => obtain ⟨i, h1, _⟩ := ok_slice h; exact ⟨_, h1, rfl⟩
 | struct => simp [TI.one] at ho
 | array => simp [TI.one] at ho
 | leaves => simp [TI.one] at ho
theorem load_agg {P : Program} {t n : Nat} {d : TypeDesc} {i : TypeInfo} (hd : P.underlying t = some d) (ha : aggB d = true) (hi : P.info? t = some i) (hn : i.size = n)
  {w' : World} {b o : Nat} {f : Nat → Value} (hc : ∀ j, j < n → w'.cell? ⟨b, o + j, none⟩ = some (f j)) :
  (Instr.loadAt t (.pointer (some ⟨b, o, none⟩))).run P w' = .ok (.agg ((List.range n).map f).toArray) w' := by
 simp only [Instr.loadAt, Instr.sureAddr, Sem.run_bind, Sem.run_pure, Result.andThen_ok, loadVar, isAgg_run hd, ha, if_true, sizeOf_run hi, hn]
 rw [run_loadCells w' _ n f (fun j hj => by rw [add_none]; exact hc j hj)]
 rfl
theorem load_one {P : Program} {t : Nat} {d : TypeDesc} (hd : P.underlying t = some d) (ha : aggB d = false)
  {w' : World} {a : Addr} {v : Value} (hc : w'.cell? a = some v) : (Instr.loadAt t (.pointer (some a))).run P w' = .ok v w' := by
 simp only [Instr.loadAt, Instr.sureAddr, Sem.run_bind, Sem.run_pure, Result.andThen_ok, loadVar, isAgg_run hd, ha]
 simp [hc]
theorem rep_take {F τ w} {cs : List AV} {n : Nat} {f : Nat → Value} (hn : n ≤ cs.length) (h : ∀ j x, cs[j]? = some x → Rep F w τ x (f j)) : Rep F w τ (.agg (cs.take n)) (.agg ((List.range n).map f).toArray) := by
 refine .agg _ _ _ (by simp; omega) fun j x hx => ?_
 rw [List.getElem?_take] at hx
 split at hx
 ·rename_i hj
  have := h j x hx
  have e : (((List.range n).map f).toArray).getD j undef = f j := by simp [hj]
  rw [e]; exact this
 ·cases hx
theorem loadv_sound {P : Program} {T : List (Nat × TI)} (hT : tabB P T = true) {g : Bool} {s : St} {t : Nat} {x : AV} {K : AV → Prop} (h : loadv T g s t x K) :
  ∃ y, K y ∧ ∀ cx τ F w u, g = true → RelW cx τ F s w → Rep F w τ x u → ∃ v, Rep F w τ y v ∧ ∀ w', Same F τ w w' → (Instr.loadAt t u).run P w' = .ok v w' := by
 unfold loadv at h
 obtain ⟨cs, h, hs⟩ := cellsAt_sound h
 cases hl : look T t with
 | none => rw [hl] at h; exact h.elim
 | some ti =>
  rw [hl] at h
  have hok := tabB_look hT hl
  have one : ti.one = true → chk (Nat.blt 0 cs.length) (K (cs.headD .any)) → ∃ y, K y ∧ ∀ cx τ F w u, g = true → RelW cx τ F s w → Rep F w τ x u → ∃ v, Rep F w τ y v ∧ ∀ w', Same F τ w w' → (Instr.loadAt t u).run P w' = .ok v w' := by
   intro ho hh
   obtain ⟨h1, h2⟩ := chk_spec hh
   have h1 : 0 < cs.length := by simpa [Nat.blt_eq] using h1
   refine ⟨_, h2, fun cx τ F w u hg hw hr => ?_⟩
   obtain ⟨b, o, rfl, hk⟩ := hs cx τ F w u hg hw hr
   obtain ⟨d, hd, ha⟩ := ok_one ho hok
   have hlen := h1
   obtain ⟨hlt, f, hf, hrep⟩ := hk
   refine ⟨f 0, ?_, fun w' hb => load_one hd ha ?_⟩
   ·cases cs with
    | nil => simp at hlen
    | cons c r => exact hrep 0 c rfl
   ·rw [World.cell?_of_block (w := w) (hb b hlt)]; simpa using hf 0 hlen
  cases ti with
  | leaves t0 lv => exact h.elim
  | scalar => exact one rfl h
  | int k => exact one rfl h
  | str => exact one rfl h
  | bool => exact one rfl h
  | slice e n _ => exact one rfl h
  | struct size offs =>
   obtain ⟨h1, h2⟩ := chk_spec h
   have h1 := Nat.le_of_ble_eq_true h1
   obtain ⟨fs, i, hu, hi, hsz, _⟩ := ok_struct hok
   refine ⟨_, h2, fun cx τ F w u hg hw hr => ?_⟩
   obtain ⟨b, o, rfl, hk⟩ := hs cx τ F w u hg hw hr
   obtain ⟨hlt, f, hf, hrep⟩ := hk
   refine ⟨_, rep_take h1 hrep, fun w' hb => load_agg hu rfl hi hsz fun j hj => ?_⟩
   rw [World.cell?_of_block (w := w) (hb b hlt)]; exact hf j (Nat.lt_of_lt_of_le hj h1)
  | array n e _ =>
   obtain ⟨h1, h2⟩ := chk_spec h
   have h1 := Nat.le_of_ble_eq_true h1
   obtain ⟨e', i, j', hu, _, _, hi, hsz, _⟩ := ok_array hok
   refine ⟨_, h2, fun cx τ F w u hg hw hr => ?_⟩
   obtain ⟨b, o, rfl, hk⟩ := hs cx τ F w u hg hw hr
   obtain ⟨hlt, f, hf, hrep⟩ := hk
   refine ⟨_, rep_take h1 hrep, fun w' hb => load_agg hu rfl hi hsz fun j hj => ?_⟩
   rw [World.cell?_of_block (w := w) (hb b hlt)]; exact hf j (Nat.lt_of_lt_of_le hj h1)
theorem rep_ptr_drop {F τ w} {cs : List AV} {u : Value} (h : Rep F w τ (.ptr cs) u) (k : Nat) : ∃ b o, u = .pointer (some ⟨b, o, none⟩) ∧ Rep F w τ (.ptr (cs.drop k)) (.pointer (some ⟨b, o + k, none⟩)) := by
 cases h with
 | ptr _ _ b o f h1 h2 h3 =>
  refine ⟨b, o, rfl, .ptr _ _ b (o + k) (fun j => f (k + j)) h1 (fun j hj => ?_) (fun j x hx => ?_)⟩
  ·rw [Nat.add_assoc]; exact h2 (k + j) (by simp at hj; omega)
  ·exact h3 (k + j) x (by rw [List.getElem?_drop] at hx; exact hx)
theorem fieldAt_run {P : Program} {t size f o sz : Nat} {offs : List (Nat × Nat)} (hok : (TI.struct size offs).okB P t = true) (hf : offs[f]? = some (o, sz)) (hz : sz ≠ 0) (b off : Nat) (w : World) :
  (Instr.fieldAt t (.pointer (some ⟨b, off, none⟩)) f).run P w = .ok (.pointer (some ⟨b, off + o, none⟩)) w := by
 obtain ⟨fs, i, hu, _, _, hoffs, hsome⟩ := ok_struct hok
 subst hoffs
 rw [List.getElem?_map] at hf
 cases hfs : fs.toList[f]? with
 | none => rw [hfs] at hf; cases hf
 | some fd =>
  rw [hfs] at hf
  simp only [Option.map_some, Option.some.injEq, Prod.mk.injEq] at hf
  obtain ⟨h1, h2⟩ := hf
  have hmem : fd ∈ fs.toList := List.mem_of_getElem? hfs
  have hi := hsome fd hmem
  obtain ⟨fi, hfi⟩ := Option.isSome_iff_exists.1 hi
  have hfa : fs[f]? = some fd := by simpa using hfs
  have hsz : fi.size = sz := by rw [← h2]; simp [szOf, hfi]
  have hne : fi.size ≠ 0 := by rw [hsz]; exact hz
  simp only [Instr.fieldAt, Sem.run_bind, run_underlying hu, Result.andThen_ok, hfa, Instr.sureAddr, Sem.run_pure, fieldPlace, sizeOf_run hfi, hne, if_false]
  simp [add_none, h1]
theorem fieldv_sound {P : Program} {T : List (Nat × TI)} (hT : tabB P T = true) {t f : Nat} {x : AV} {K : AV → Prop} (h : fieldv T t f x K) :
  ∃ y, K y ∧ ∀ F τ w u, Rep F w τ x u → ∃ v, Rep F w τ y v ∧ ∀ w', (Instr.fieldAt t u f).run P w' = .ok v w' := by
 unfold fieldv at h
 split at h
 ·rename_i size offs hl
  have hok := tabB_look hT hl
  split at h
  ·rename_i o sz hf
   obtain ⟨hz, h⟩ := chk_spec h
   have hz : sz ≠ 0 := by rintro rfl; exact absurd hz (by decide)
   split at h
   ·refine ⟨_, h, fun F τ w u hr => ?_⟩
    obtain ⟨b, o', rfl, hr'⟩ := rep_ptr_drop hr o
    exact ⟨_, hr', fun w' => fieldAt_run hok hf hz b o' w'⟩
   ·refine ⟨_, h, fun F τ w u hr => ?_⟩
    cases hr with
    | obj _ _ _ b hb => exact ⟨_, .obj _ _ _ b hb, fun w' => fieldAt_run hok hf hz b _ w'⟩
   ·refine ⟨_, h, fun F τ w u hr => ?_⟩
    cases hr with
    | rp _ _ _ _ _ b m c hb => exact ⟨_, .rp _ _ _ _ _ b m c hb, fun w' => by rw [fieldAt_run hok hf hz b _ w', Nat.add_assoc]⟩
   ·exact h.elim
  ·exact h.elim
 ·exact h.elim
theorem intsOf_get : ∀ {cs : List AV} {k : IntKind} {l : List Int}, intsOf cs = some (k, l) → l.length = cs.length ∧ ∀ i, i < cs.length → cs[i]? = some (.val (.int k (l.getD i 0)))
 | [], k, l, h => by simp [intsOf] at h
 | x :: r, k, l, h => by
  unfold intsOf at h
  split at h
  ·rename_i heq; cases heq
  ·rename_i k1 a r1 heq
   injection heq with e1 e2; subst e1 e2
   split at h
   ·simp only [Option.some.injEq, Prod.mk.injEq] at h
    obtain ⟨rfl, rfl⟩ := h
    refine ⟨rfl, fun i hi => ?_⟩
    have : i = 0 := by simp at hi; omega
    subst this; rfl
   ·split at h
    ·rename_i k' l' hr
     split at h
     ·rename_i hk
      have := ikB_spec hk; subst this
      simp only [Option.some.injEq, Prod.mk.injEq] at h
      obtain ⟨rfl, rfl⟩ := h
      obtain ⟨h1, h2⟩ := intsOf_get hr
      refine ⟨by simp [h1], fun i hi => ?_⟩
      cases i with
      | zero => rfl
      | succ i => simpa using h2 i (by simpa using hi)
     ·cases h
    ·cases h
  ·cases h
theorem indexv_sound {P : Program} {T : List (Nat × TI)} (hT : tabB P T = true) {g : Bool} {t : Nat} {x i : AV} {K : AV → Prop} (h : indexv T g t x i K) :
  ∃ y, K y ∧ ∀ F τ w u v, g = true → Rep F w τ x u → Rep F w τ i v → ∃ r, Rep F w τ y r ∧ ∀ w', (Instr.indexAt t u v).run P w' = .ok r w' := by
 unfold indexv at h
 split at h
 ·rename_i e esz by_ id n k i hl
  have hok := tabB_look hT hl
  obtain ⟨fi, hu, hi, hsz, hpos, _⟩ := ok_slice hok
  obtain ⟨hg, h⟩ := h
  refine ⟨_, h, fun F τ w u v hgt hr hv => ?_⟩
  obtain ⟨h0, h1⟩ := hg hgt
  cases hv
  cases hr with
  | sl _ _ _ A m c hb hn hm hA =>
   obtain ⟨b, rfl⟩ := hA (by omega)
   refine ⟨_, .rp _ id esz i.toNat 0 b m c hb, fun w' => ?_⟩
   simp [Instr.indexAt, run_underlying hu, asIntOf, h0, h1, sizeOf_run hi, hsz, add_none]
 ·rename_i e esz by_ id z off n k i hl
  have hok := tabB_look hT hl
  obtain ⟨fi, hu, hi, hsz, hpos, _⟩ := ok_slice hok
  obtain ⟨hz, hg, h2⟩ := chk_spec h
  have hzz := Nat.eq_of_beq_eq_true hz
  subst hzz
  refine ⟨_, h2, fun F τ w u v hgt hr hv => ?_⟩
  obtain ⟨h0, h1⟩ := hg hgt
  cases hv
  cases hr with
  | so _ _ _ _ _ A m c Z hb hn hm hA hZ hZ2 =>
   obtain ⟨b, rfl⟩ := hA (by omega)
   have hZ := hZ (by omega)
   subst hZ
   refine ⟨_, .rp _ id z (off + i.toNat) 0 b m c hb, fun w' => ?_⟩
   have e1 : off * z + i.toNat * z = (off + i.toNat) * z := (Nat.add_mul _ _ _).symm
   simp [Instr.indexAt, run_underlying hu, asIntOf, h0, h1, sizeOf_run hi, hsz, add_none, e1]
 ·rename_i e esz by_ sz n row k i hl
  have hok := tabB_look hT hl
  obtain ⟨fi, hu, hi, hsz, hpos, _⟩ := ok_slice hok
  obtain ⟨hsz', hg, h2⟩ := chk_spec h
  have hszz := Nat.eq_of_beq_eq_true hsz'
  subst hszz
  refine ⟨_, h2, fun F τ w u v hgt hr hv => ?_⟩
  obtain ⟨h0, h1⟩ := hg hgt
  cases hv
  cases hr with
  | ro _ _ _ _ A c f q1 q2 q3 q4 q5 =>
   obtain ⟨b, o, rfl, hb, hc⟩ := q3 (by omega)
   have hin : i.toNat < n := by omega
   refine ⟨_, .ptr _ (row i.toNat) b (o + i.toNat * sz) (f i.toNat) hb (fun j hj => hc i.toNat j hin (by rw [q4 _ hin] at hj; exact hj)) (fun j x hx => q5 i.toNat j x hin hx), fun w' => ?_⟩
   simp [Instr.indexAt, run_underlying hu, asIntOf, h0, h1, sizeOf_run hi, hsz, add_none]
 ·rename_i n esz _ cs k i hl
  have hok := tabB_look hT hl
  obtain ⟨e, fi, _, hu, hi, hsz, _, _, _⟩ := ok_array hok
  obtain ⟨hg, h⟩ := h
  split at h
  ·rename_i k' l hb hl'
   simp only [Bool.and_eq_true] at hb
   have he1 := Nat.eq_of_beq_eq_true hb.1
   have hle := Nat.le_of_ble_eq_true hb.2
   obtain ⟨q1, q2⟩ := intsOf_get hl'
   refine ⟨_, h, fun F τ w u v hgt hr hv => ?_⟩
   obtain ⟨h0, h1⟩ := hg hgt
   cases hv
   cases hr with
   | ptr _ _ b o f p1 p2 p3 =>
    have hlt : i.toNat < n := by omega
    have hcs : cs[i.toNat]? = some (.val (.int k' (l.getD i.toNat 0))) := by
     have := q2 i.toNat (by simp; omega)
     rw [List.getElem?_take, if_pos hlt] at this; exact this
    refine ⟨_, .ptr _ _ b (o + i.toNat * esz) (fun j => f (i.toNat + j)) p1 (fun j hj => ?_) (fun j x hx => ?_), fun w' => ?_⟩
    ·have : j = 0 := by simp at hj; omega
     subst this
     rw [he1]; simpa using p2 i.toNat (by omega)
    ·have : j = 0 := by
      have := (List.getElem?_eq_some_iff.1 hx).1
      simp at this; omega
     subst this
     simp at hx; subst hx
     exact p3 i.toNat _ hcs
    ·simp [Instr.indexAt, run_underlying hu, Instr.sureAddr, asIntOf, h0, h1, sizeOf_run hi, hsz, add_none]
  refine ⟨_, h, fun F τ w u v hgt hr hv => ?_⟩
  obtain ⟨h0, h1⟩ := hg hgt
  cases hv
  obtain ⟨b, o, rfl, hr'⟩ := rep_ptr_drop hr (i.toNat * esz)
  refine ⟨_, hr', fun w' => ?_⟩
  simp [Instr.indexAt, run_underlying hu, Instr.sureAddr, asIntOf, h0, h1, sizeOf_run hi, hsz, add_none]
 ·rename_i n esz _ id off k i hl
  have hok := tabB_look hT hl
  obtain ⟨e, fi, _, hu, hi, hsz, _, _, _⟩ := ok_array hok
  obtain ⟨hg, h⟩ := h
  refine ⟨_, h, fun F τ w u v hgt hr hv => ?_⟩
  obtain ⟨h0, h1⟩ := hg hgt
  cases hv
  cases hr with
  | obj _ _ _ b hb =>
   refine ⟨_, .obj _ id _ b hb, fun w' => ?_⟩
   simp [Instr.indexAt, run_underlying hu, Instr.sureAddr, asIntOf, h0, h1, sizeOf_run hi, hsz, add_none]
 ·exact h.elim
theorem equalIn_bool {P : Program} {t : Nat} (hu : P.underlying t = some .bool) (n : Nat) (a b : Bool) (w : World) : (Op.equalIn (n + 1) t (.bool a) (.bool b)).run P w = .ok (a == b) w := by
 simp [Op.equalIn, run_underlying hu]
theorem equal_bool {P : Program} {t : Nat} (hu : P.underlying t = some .bool) (a b : Bool) (w : World) : (Op.equal t (.bool a) (.bool b)).run P w = .ok (a == b) w :=
 equalIn_bool hu 9999 a b w
def eqV : Leaf → Value → Value → Option Bool
 | .int, .int k a, .int k' b => if k = k' then some (a == b) else none
 | .bool, .bool a, .bool b => some (a == b)
 | .str, .string a, .string b => some (a == b)
 | _, _, _ => none
def eqVs : List Leaf → List Value → List Value → Option Bool
 | [], [], [] => some true
 | l :: lv, x :: xs, y :: ys => match eqV l x y, eqVs lv xs ys with
  | some p, some q => some (p && q)
  | _, _ => none
 | _, _, _ => none
theorem eqVs_len : ∀ {lv : List Leaf} {xs ys : List Value} {r : Bool}, eqVs lv xs ys = some r → xs.length = lv.length ∧ ys.length = lv.length
 | [], [], [], _, _ => ⟨rfl, rfl⟩
 | l :: lv, x :: xs, y :: ys, r, h => by
  simp only [eqVs] at h
  split at h
  ·rename_i q h2
   have := eqVs_len h2
   simp [this.1, this.2]
  ·cases h
 | [], _ :: _, _, _, h => by simp [eqVs] at h
 | [], [], _ :: _, _, h => by simp [eqVs] at h
 | _ :: _, [], _, _, h => by simp [eqVs] at h
 | _ :: _, _ :: _, [], _, h => by simp [eqVs] at h
theorem eqVs_append : ∀ {a b : List Leaf} {xs ys : List Value} {r : Bool}, eqVs (a ++ b) xs ys = some r → ∃ p q, eqVs a (xs.take a.length) (ys.take a.length) = some p ∧ eqVs b (xs.drop a.length) (ys.drop a.length) = some q ∧ r = (p && q)
 | [], b, xs, ys, r, h => ⟨true, r, by simp [eqVs], by simpa using h, by simp⟩
 | l :: a, b, [], ys, r, h => by simp [eqVs] at h
 | l :: a, b, x :: xs, [], r, h => by simp [eqVs] at h
 | l :: a, b, x :: xs, y :: ys, r, h => by
  simp only [List.cons_append, eqVs] at h
  split at h
  ·rename_i p q h1 h2
   injection h with h; subst h
   obtain ⟨p', q', e1, e2, rfl⟩ := eqVs_append h2
   refine ⟨p && p', q', ?_, by simpa using e2, by simp [Bool.and_assoc]⟩
   simp only [List.length_cons, List.take_succ_cons, eqVs, h1, e1]
  ·cases h
def IsV (P : Program) (t : Nat) (v : Value) (cs : List Value) : Prop := ∃ d, P.underlying t = some d ∧ (match aggB d with
 | true => v = .agg cs.toArray
 | false => cs = [v])
theorem part_isV {P : Program} {t n off : Nat} {cs : List Value} {d : TypeDesc} (hu : P.underlying t = some d) (hi : (P.info? t).map (·.size) = some n) (h1 : aggB d = false → n = 1) (hlen : off + n ≤ cs.length) (w : World) :
  ∃ v, (part t cs.toArray off).run P w = .ok v w ∧ IsV P t v ((cs.drop off).take n) := by
 obtain ⟨i, hi', rfl⟩ := Option.map_eq_some_iff.1 hi
 unfold part
 simp only [Sem.run_bind, isAgg_run hu, Result.andThen_ok]
 cases ha : aggB d with
 | true =>
  simp only [if_true, Sem.run_bind, sizeOf_run hi', Result.andThen_ok, Sem.run_pure]
  refine ⟨_, rfl, d, hu, ?_⟩
  rw [ha]
  simp [List.extract_eq_take_drop, Nat.add_sub_cancel_left]
 | false =>
  have hn := h1 ha
  have hlt : off < cs.length := by omega
  simp only [Bool.false_eq_true, if_false]
  refine ⟨cs[off], by simp [hlt], d, hu, ?_⟩
  rw [ha, hn]
  show (cs.drop off).take 1 = [cs[off]]
  rw [List.drop_eq_getElem_cons hlt]; rfl
def EqL (P : Program) (dd : Nat) (t : Nat) (lv : List Leaf) : Prop := ∀ w x y xs ys r, IsV P t x xs → IsV P t y ys → eqVs lv xs ys = some r → (Op.equalIn dd t x y).run P w = .ok r w
theorem leaves_one {P : Program} {f t : Nat} {lv : List Leaf} (h : leaves P f t = some lv) {d : TypeDesc} (hu : P.underlying t = some d) : aggB d = false → lv.length = 1 := by
 intro ha
 cases f with
 | zero => simp [leaves] at h
 | succ f =>
  simp only [leaves, hu] at h
  cases d <;> simp_all [aggB] <;> (subst h; rfl)
theorem leaves_under {P : Program} {f t : Nat} {lv : List Leaf} (h : leaves P f t = some lv) : ∃ d, P.underlying t = some d := by
 cases f with
 | zero => simp [leaves] at h
 | succ f =>
  cases hu : P.underlying t with
  | none => simp [leaves, hu] at h
  | some d => exact ⟨d, rfl⟩
theorem leaves_pos {P : Program} : ∀ (f t : Nat) (lv : List Leaf), leaves P f t = some lv → lv.length ≠ 0
 | 0, t, lv, h => by simp [leaves] at h
 | f + 1, t, lv, h => by
  simp only [leaves] at h
  split at h
  ·injection h with h; subst h; simp
  ·injection h with h; subst h; simp
  ·injection h with h; subst h; simp
  ·split at h
   ·cases h
   ·split at h
    ·split at h
     ·cases h
     ·rename_i hn; injection h with h; subst h; exact hn
    ·cases h
  ·split at h
   ·split at h
    ·rename_i hc; injection h with h; subst h; exact hc.2
    ·cases h
   ·cases h
  ·cases h
theorem eqFields_leaves {P : Program} {dd f : Nat} (hnz : ∀ t lv, leaves P f t = some lv → lv.length ≠ 0) (IH : ∀ t lv, leaves P f t = some lv → EqL P dd t lv) (xs ys : List Value) (w : World) : ∀ (fs : List Field) (off : Nat) (lv : List Leaf) (r : Bool), leavesF P (leaves P f) off fs = some lv → eqVs lv (xs.drop off) (ys.drop off) = some r →
  (Op.eqFields dd xs.toArray ys.toArray fs).run P w = .ok r w
 | [], off, lv, r, h, he => by
  simp only [leavesF, Option.some.injEq] at h; subst h
  have : r = true := by
   generalize xs.drop off = a at he
   generalize ys.drop off = b at he
   cases a <;> cases b <;> simp_all [eqVs]
  subst this; rfl
 | fd :: fs, off, lv, r, h, he => by
  simp only [leavesF] at h
  split at h
  ·rename_i l hl
   split at h
   ·rename_i hc
    obtain ⟨rfl, hne, hsz⟩ := hc
    obtain ⟨lv', h', rfl⟩ := Option.map_eq_some_iff.1 h
    obtain ⟨p, q, e1, e2, rfl⟩ := eqVs_append he
    obtain ⟨d, hu⟩ := leaves_under hl
    have l1 := eqVs_len e1
    have hx0 : l.length ≠ 0 := hnz _ _ hl
    have lx : fd.offset + l.length ≤ xs.length := by have h := l1.1; rw [List.length_take, List.length_drop] at h; omega
    have ly : fd.offset + l.length ≤ ys.length := by have h := l1.2; rw [List.length_take, List.length_drop] at h; omega
    obtain ⟨vx, rx, ix⟩ := part_isV hu hsz (leaves_one hl hu) lx w
    obtain ⟨vy, ry, iy⟩ := part_isV hu hsz (leaves_one hl hu) ly w
    have hq := IH _ _ hl w vx vy _ _ p ix iy e1
    simp only [Op.eqFields, hne, ne_eq, not_false_eq_true, if_true, Sem.run_bind, rx, ry, hq, Result.andThen_ok]
    cases p with
    | false => simp
    | true =>
     simp only [Bool.not_true, Bool.false_eq_true, if_false, Bool.true_and]
     exact eqFields_leaves hnz IH xs ys w fs _ _ _ h' (by rw [List.drop_drop, List.drop_drop] at e2; exact e2)
   ·cases h
  ·cases h
theorem eqItems_leaves {P : Program} {dd e sz : Nat} {l : List Leaf} (IH : EqL P dd e l) {d : TypeDesc} (hu : P.underlying e = some d) (hsz : (P.info? e).map (·.size) = some l.length) (h1 : aggB d = false → l.length = 1) (xs ys : List Value) (w : World) :
  ∀ (n k : Nat) (r : Bool), eqVs (repL l n) (xs.drop (k * l.length)) (ys.drop (k * l.length)) = some r →
  (forIn (List.range' k n) ((none, ()) : Option Bool × PUnit) (fun i _ => do
   let r ← Op.equalIn dd e (← part e xs.toArray (i * l.length)) (← part e ys.toArray (i * l.length))
   if (!r) = true then pure (ForInStep.done (some false, ())) else pure (ForInStep.yield (none, ()))) : Sem (Option Bool × PUnit)).run P w = .ok (if r then (none, ()) else (some false, ())) w
 | 0, k, r, h => by
  have : r = true := by
   simp only [repL] at h
   generalize xs.drop _ = a at h
   generalize ys.drop _ = b at h
   cases a <;> cases b <;> simp_all [eqVs]
  subst this; rfl
 | n + 1, k, r, h => by
  obtain ⟨p, q, e1, e2, rfl⟩ := eqVs_append (by simpa [repL] using h)
  have l1 := eqVs_len e1
  by_cases hl0 : l.length = 0
  ·have hd : aggB d = true := by cases hh : aggB d with | true => rfl | false => have := h1 hh; omega
   obtain ⟨i, hi, his⟩ := Option.map_eq_some_iff.1 hsz
   have pr : ∀ zs : List Value, (part e zs.toArray (k * l.length)).run P w = .ok (.agg #[]) w := fun zs => by
    unfold part
    simp only [Sem.run_bind, isAgg_run hu, Result.andThen_ok, hd, if_true, sizeOf_run hi, his, Sem.run_pure, hl0, Nat.mul_zero, Nat.add_zero]
    simp
   have iv : IsV P e (.agg #[]) [] := ⟨d, hu, by rw [hd]⟩
   have ln : l = [] := List.eq_nil_of_length_eq_zero hl0
   have hq := IH w _ _ [] [] true iv iv (by rw [ln]; rfl)
   have hp : p = true := by rw [ln] at e1; simp [eqVs] at e1; exact e1
   subst hp
   simp only [List.range'_succ, List.forIn_cons, Sem.run_bind, pr, Result.andThen_ok, hq, Bool.not_true, Bool.false_eq_true, if_false, Sem.run_pure]
   have := eqItems_leaves (sz := sz) IH hu hsz h1 xs ys w n (k + 1) q (by rw [List.drop_drop, List.drop_drop] at e2; rw [Nat.add_mul, Nat.one_mul]; exact e2)
   simpa using this
  ·have lx : k * l.length + l.length ≤ xs.length := by have := l1.1; simp at this; omega
   have ly : k * l.length + l.length ≤ ys.length := by have := l1.2; simp at this; omega
   obtain ⟨vx, rx, ix⟩ := part_isV hu hsz h1 lx w
   obtain ⟨vy, ry, iy⟩ := part_isV hu hsz h1 ly w
   have hq := IH w vx vy _ _ p ix iy e1
   simp only [List.range'_succ, List.forIn_cons, Sem.run_bind, rx, ry, Result.andThen_ok, hq]
   cases p with
   | false => simp
   | true =>
    simp only [Bool.not_true, Bool.false_eq_true, if_false, Sem.run_pure, Result.andThen_ok]
    have := eqItems_leaves (sz := sz) IH hu hsz h1 xs ys w n (k + 1) q (by rw [List.drop_drop, List.drop_drop] at e2; rw [Nat.add_mul, Nat.one_mul]; exact e2)
    simpa using this
theorem equalIn_leaves {P : Program} : ∀ (f t : Nat) (lv : List Leaf), leaves P f t = some lv → ∀ d, f ≤ d → EqL P d t lv
 | 0, t, lv, h, _, _ => by simp [leaves] at h
 | f + 1, t, lv, h, 0, hd => by omega
 | f + 1, t, lv, h, d + 1, hd => by
  intro w x y xs ys r hx hy he
  obtain ⟨dx, hu, hx⟩ := hx
  obtain ⟨dy, hu', hy⟩ := hy
  rw [hu] at hu'; injection hu' with hu'; subst hu'
  simp only [leaves, hu] at h
  have key : ∀ (a b : Value) (l : Leaf), eqVs [l] [a] [b] = some r → eqV l a b = some r := by
   intro a b l h
   simp only [eqVs] at h
   split at h
   ·rename_i p q h1 h2
    injection h2 with h2; subst h2
    rw [h1]; simpa using h
   ·cases h
  cases dx <;> simp only [aggB] at hx hy <;> simp only [Option.some.injEq, reduceCtorEq] at h
  case bool =>
   subst h hx hy
   have := key _ _ _ he
   cases x <;> cases y <;> simp [eqV] at this
   rw [equalIn_bool hu]; simp [this]
  case int k =>
   subst h hx hy
   have := key _ _ _ he
   cases x <;> cases y <;> simp [eqV] at this
   obtain ⟨rfl, this⟩ := this
   rw [run_equalIn_int w d t _ k _ _ hu]; simp [this]
  case string =>
   subst h hx hy
   have := key _ _ _ he
   cases x <;> cases y <;> simp [eqV] at this
   simp [Op.equalIn, run_underlying hu, this]
  case struct fs =>
   subst hx hy
   split at h
   ·cases h
   ·rename_i hs
    have hfo : P.fieldsOf t = fs := by simp [Program.fieldsOf, hu]
    rw [run_equalIn_struct w d t _ _ (by rw [hfo]; exact hu) (by simpa using hs), hfo]
    have h : leavesF P (leaves P f) 0 fs.toList = some lv := by
     split at h
     ·split at h
      ·cases h
      ·rename_i l he2 _; injection h with h; subst h; exact he2
     ·cases h
    exact eqFields_leaves (leaves_pos f) (fun t' lv' h' => equalIn_leaves f t' lv' h' d (by omega)) xs ys w fs.toList 0 lv r h (by simpa using he)
  case array n e =>
   subst hx hy
   split at h
   ·rename_i l hl
    split at h
    ·rename_i hsz
     have hsz := hsz.1
     injection h with h; subst h
     obtain ⟨de, hue⟩ := leaves_under hl
     obtain ⟨i, hi, his⟩ := Option.map_eq_some_iff.1 hsz
     have := eqItems_leaves (sz := 0) (equalIn_leaves f e l hl d (by omega)) hue hsz (leaves_one hl hue) xs ys w n 0 r (by simpa using he)
     simp only [Op.equalIn, Sem.run_bind, run_underlying hu, Result.andThen_ok, sizeOf_run hi, his]
     simp only [Std.Legacy.Range.forIn_eq_forIn_range', Std.Legacy.Range.size]
     simp only [Nat.sub_zero, Nat.add_sub_cancel, Nat.div_one]
     rw [this]
     cases r <;> simp
    ·cases h
   ·cases h
theorem cmpA_sound : ∀ (lv : List Leaf) (xs ys : List AV) (K : Bool → Prop), cmpA lv xs ys K → ∃ q, K q ∧ ∀ F τ w (us vs : List Value), xs.length = us.length → ys.length = vs.length → (∀ (j : Nat) (x : AV), xs[j]? = some x → Rep F w τ x (us.getD j undef)) → (∀ (j : Nat) (y : AV), ys[j]? = some y → Rep F w τ y (vs.getD j undef)) → eqVs lv us vs = some q := by
 intro lv
 induction lv with
 | nil =>
  intro xs ys K h
  cases xs <;> cases ys <;> simp only [cmpA] at h
  refine ⟨true, h, fun F τ w us vs h1 h2 _ _ => ?_⟩
  cases us <;> cases vs <;> simp_all [eqVs]
 | cons l lv ih =>
  intro xs ys K h
  have step : ∀ (a b : Value) (xs ys : List AV) (p : Bool), eqV l a b = some p → (cmpA lv xs ys fun q => K (p && q)) → ∃ q, K q ∧ ∀ F τ w (us vs : List Value), (AV.val a :: xs).length = us.length → (AV.val b :: ys).length = vs.length → (∀ (j : Nat) (x : AV), (AV.val a :: xs)[j]? = some x → Rep F w τ x (us.getD j undef)) → (∀ (j : Nat) (y : AV), (AV.val b :: ys)[j]? = some y → Rep F w τ y (vs.getD j undef)) → eqVs (l :: lv) us vs = some q := by
   intro a b xs ys p hp h
   obtain ⟨q, hK, hs⟩ := ih xs ys _ h
   refine ⟨_, hK, fun F τ w us vs h1 h2 h3 h4 => ?_⟩
   match us, vs, h1, h2 with
   | u :: us, v :: vs, h1, h2 =>
    have e1 : u = a := by have := h3 0 _ rfl; simp at this; cases this; rfl
    have e2 : v = b := by have := h4 0 _ rfl; simp at this; cases this; rfl
    subst e1 e2
    have := hs F τ w us vs (by simpa using h1) (by simpa using h2) (fun j x hx => by simpa using h3 (j + 1) x (by simpa using hx)) (fun j x hx => by simpa using h4 (j + 1) x (by simpa using hx))
    simp [eqVs, hp, this]
  match l, xs, ys, h with
  | .int, .val (.int k a) :: xs', .val (.int k' b) :: ys', h =>
   obtain ⟨hk, h2⟩ := chk_spec (show chk (ikB k k') (cmpA lv xs' ys' fun q => K ((a == b) && q)) from h)
   have := ikB_spec hk; subst this
   exact step _ _ _ _ (a == b) (by simp only [eqV, if_true]) h2
  | .bool, .val (.bool a) :: xs', .val (.bool b) :: ys', h => exact step _ _ _ _ (a == b) (by simp only [eqV]) h
  | .str, .val (.string a) :: xs', .val (.string b) :: ys', h => exact step _ _ _ _ (a == b) (by simp only [eqV]) h
theorem equalIn_nil {P : Program} {t e : Nat} (hu : P.underlying t = some (.slice e)) (k : Nat) (A : Option Addr) (n c n' c' : Nat) (w : World) : (Op.equalIn (k + 1) t (.slice A n c) (.slice none n' c')).run P w = .ok A.isNone w := by
 cases A <;> simp [Op.equalIn, run_underlying hu]
theorem equal_nil {P : Program} {t e : Nat} (hu : P.underlying t = some (.slice e)) (A : Option Addr) (n c n' c' : Nat) (w : World) : (Op.equal t (.slice A n c) (.slice none n' c')).run P w = .ok A.isNone w :=
 equalIn_nil hu 9999 A n c n' c' w
theorem nilv_sound {P : Program} {t e : Nat} (hu : P.underlying t = some (.slice e)) {op : BinOp} {b : Bool} {K : AV → Prop} (h : nilv op b K) :
  ∃ z : Bool, K (.bool z) ∧ ∀ (A : Option Addr) (n c n' c' : Nat), A.isNone = b → ∀ w' xo yo, (do eqGuard op t xo yo (.slice A n c) (.slice none n' c'); binOp op t (.slice A n c) (.slice none n' c')).run P w' = .ok (.bool z) w' := by
 unfold nilv at h
 split at h
 ·refine ⟨_, h, fun A n c n' c' hA w' xo yo => ?_⟩
  simp [eqGuard, binOp, equal_nil hu, hA]
 ·refine ⟨_, h, fun A n c n' c' hA w' xo yo => ?_⟩
  simp [eqGuard, binOp, equal_nil hu, hA]
 ·exact h.elim
theorem bin_sound {P : Program} {T : List (Nat × TI)} (hT : tabB P T = true) {g : Bool} {op : BinOp} {x y : AV} {K : AV → Prop} {t : Nat} (h : bin T g op t x y K) :
  ∃ z, K z ∧ ∀ F τ w u v, g = true → Rep F w τ x u → Rep F w τ y v → ∃ r, Rep F w τ z r ∧ ∀ w' xo yo, (do eqGuard op t xo yo u v; binOp op t u v).run P w' = .ok r w' := by
 unfold bin at h
 split at h
 ·rename_i a b
  split at h
  ·rename_i hl
   have hu := ok_bool (tabB_look hT hl)
   unfold binB at h
   split at h
   ·refine ⟨_, h, fun F τ w u v hg hu' hv' => ?_⟩
    cases hu'; cases hv'
    refine ⟨_, .val _ _, fun w' xo yo => ?_⟩
    simp [eqGuard, binOp, equal_bool hu]
   ·refine ⟨_, h, fun F τ w u v hg hu' hv' => ?_⟩
    cases hu'; cases hv'
    refine ⟨_, .val _ _, fun w' xo yo => ?_⟩
    simp [eqGuard, binOp, equal_bool hu]
    cases a <;> cases b <;> rfl
   ·exact h.elim
  ·exact h.elim
 ·rename_i k a k' b
  split at h
  ·rename_i hs
   cases op <;> simp only [BinOp.isShift] at hs <;> (try (exact absurd hs (by decide)))
   all_goals
    simp only [shiftI] at h
    obtain ⟨h1, h2, h3⟩ := h
    refine ⟨_, h3, fun F τ w u v hg hu hv => ?_⟩
    cases hu; cases hv
    refine ⟨_, .val _ _, fun w' xo yo => ?_⟩
    simp [eqGuard, binOp_shl, binOp_shr, Op.shift, Int.not_lt.2 h1]
  ·rename_i hs
   obtain ⟨hk, h2⟩ := chk_spec h
   have hkk := ikB_spec hk
   subst hkk
   obtain ⟨z, hz, hr⟩ := binI_sound (t := t) (by simpa using hs) h2
   refine ⟨z, hz, fun F τ w u v hg hu hv => ?_⟩
   cases hu; cases hv
   obtain ⟨r, h1, h2⟩ := hr F τ w
   refine ⟨r, h1, fun w' xo yo => ?_⟩
   rw [Sem.run_bind, show (eqGuard op t xo yo (.int k a) (.int k b)) = pure () from by cases op <;> rfl]
   exact h2 P w'
 ·rename_i xs ys
  split at h
  ·rename_i lv hl
   have hok := tabB_leaves hT hl
   simp only [TI.okB, Bool.and_eq_true, beq_iff_eq, Bool.not_eq_true'] at hok
   obtain ⟨⟨hlv, hg⟩, hagg⟩ := hok
   obtain ⟨q, h, hs⟩ := cmpA_sound _ _ _ _ h
   obtain ⟨d, hu⟩ := leaves_under hlv
   have hrun : ∀ F τ w u v, Rep F w τ (.agg xs) u → Rep F w τ (.agg ys) v → aggB d = true → ∃ us vs, u = .agg us ∧ v = .agg vs ∧ ∀ w', (Op.equal t u v).run P w' = .ok q w' := by
    intro F τ w u v h1 h2 ha
    cases h1 with
    | agg _ _ us l1 r1 =>
     cases h2 with
     | agg _ _ vs l2 r2 =>
      refine ⟨us, vs, rfl, rfl, fun w' => ?_⟩
      exact equalIn_leaves 8 t lv hlv 10000 (by omega) w' _ _ us.toList vs.toList q ⟨d, hu, by rw [ha]⟩ ⟨d, hu, by rw [ha]⟩ (hs F τ w _ _ (by simpa using l1) (by simpa using l2) (fun j x hx => by simpa using r1 j x hx) (fun j x hx => by simpa using r2 j x hx))
   have ha : aggB d = true := by
    rw [hu] at hagg
    cases d <;> simp_all [aggB]
   split at h
   ·refine ⟨_, h, fun F τ w u v hgt h1 h2 => ⟨_, .val _ _, fun w' xo yo => ?_⟩⟩
    obtain ⟨us, vs, rfl, rfl, hr⟩ := hrun F τ w u v h1 h2 ha
    rw [Sem.run_bind, run_eqGuard_agg w' _ t xo yo us vs hg, Result.andThen_ok]
    simp [binOp, hr]
   ·refine ⟨_, h, fun F τ w u v hgt h1 h2 => ⟨_, .val _ _, fun w' xo yo => ?_⟩⟩
    obtain ⟨us, vs, rfl, rfl, hr⟩ := hrun F τ w u v h1 h2 ha
    rw [Sem.run_bind, run_eqGuard_agg w' _ t xo yo us vs hg, Result.andThen_ok]
    simp [binOp, hr]
   ·exact h.elim
  ·exact h.elim
 ·rename_i a b
  unfold strv at h
  split at h
  ·refine ⟨_, h, fun F τ w u v hg h1 h2 => ?_⟩
   cases h1; cases h2
   exact ⟨_, .val _ _, fun w' xo yo => by simp [eqGuard, binOp, Op.stringOp]⟩
  ·refine ⟨_, h, fun F τ w u v hg h1 h2 => ?_⟩
   cases h1; cases h2
   exact ⟨_, .val _ _, fun w' xo yo => by simp [eqGuard, binOp, Op.stringOp]⟩
  ·obtain ⟨hs, h⟩ := h
   refine ⟨_, h, fun F τ w u v hg h1 h2 => ?_⟩
   cases h1; cases h2
   exact ⟨_, .val _ _, fun w' xo yo => by
    have : ¬ (((a.size + b.size : Nat) : Int) > IntKind.i64.max) := by simp [IntKind.max, IntKind.bits, IntKind.signed]; omega
    simp only [eqGuard, binOp, Op.stringOp, if_neg this]
    simp⟩
  ·exact h.elim
 ·rename_i A n c n' c'
  split at h
  ·rename_i e esz by_ hl
   obtain ⟨fi, hu, _⟩ := ok_slice (tabB_look hT hl)
   obtain ⟨z, hz, hr⟩ := nilv_sound hu h
   refine ⟨_, hz, fun F τ w u v hg h1 h2 => ?_⟩
   cases h1; cases h2
   exact ⟨_, .val _ _, fun w' xo yo => hr _ _ _ _ _ rfl w' xo yo⟩
  ·exact h.elim
 ·rename_i sz n row n' c'
  split at h
  ·rename_i e esz by_ hl
   obtain ⟨fi, hu, _⟩ := ok_slice (tabB_look hT hl)
   obtain ⟨hn, h⟩ := h
   obtain ⟨z, hz, hr⟩ := nilv_sound hu h
   refine ⟨_, hz, fun F τ w u v hg h1 h2 => ?_⟩
   cases h2
   cases h1 with
   | ro _ _ _ _ A c f p1 p2 p3 p4 p5 =>
    obtain ⟨b, o, rfl, _⟩ := p3 (hn hg)
    exact ⟨_, .val _ _, fun w' xo yo => hr _ _ _ _ _ rfl w' xo yo⟩
  ·exact h.elim
 ·rename_i id n n' c'
  split at h
  ·rename_i e esz by_ hl
   obtain ⟨fi, hu, _⟩ := ok_slice (tabB_look hT hl)
   obtain ⟨hn, h⟩ := h
   obtain ⟨z, hz, hr⟩ := nilv_sound hu h
   refine ⟨_, hz, fun F τ w u v hg h1 h2 => ?_⟩
   cases h2
   cases h1 with
   | sl _ _ _ A m c q1 q2 q3 q4 =>
    obtain ⟨b, rfl⟩ := q4 (by have := hn hg; omega)
    exact ⟨_, .val _ _, fun w' xo yo => hr _ _ _ _ _ rfl w' xo yo⟩
  ·exact h.elim
 ·exact h.elim
end Go.Abs
namespace Go.Abs
open Go Go.RowKit
set_option linter.unusedVariables false
set_option linter.unusedSimpArgs false
def Quiet (P : Program) (op : Op) (ty : TypeId) (a : Act) (w : World) (v : Value) : Prop :=
 ∀ (o : Oper), o.op = op → ∀ w', Below w.heap.size w w' → (execOp a.eval o).run P w' = .ok (.value v) w'
theorem agetO_sound {g : Bool} {s : St} {x : Option Operand} {K : Option AV → Prop} (h : agetO g s x K) :
  ∃ y, K y ∧ ∀ F τ w n (a : Act), g = true → EnvR F τ w n s.env a.tmps → (x = none ∧ y = none) ∨ ∃ xo z, x = some xo ∧ y = some z ∧ Rep F w τ z (a.eval xo) := by
 cases x with
 | none => exact ⟨_, h, fun _ _ _ _ _ _ _ => .inl ⟨rfl, rfl⟩⟩
 | some x =>
  obtain ⟨y, hy, hs⟩ := aget_sound (K := fun y => K (some y)) h
  exact ⟨_, hy, fun F τ w n a hg he => .inr ⟨_, _, rfl, rfl, hs F τ w n a hg he⟩⟩
theorem boundv_sound {x : Option AV} {d : Int} {K : Int → Prop} (h : boundv x d K) : ∃ i, K i ∧ ((x = none ∧ i = d) ∨ ∃ k, x = some (.val (.int k i))) := by
 unfold boundv at h
 split at h
 ·exact ⟨_, h, .inl ⟨rfl, rfl⟩⟩
 ·exact ⟨_, h, .inr ⟨_, rfl⟩⟩
 ·exact h.elim
theorem sliceBound_ok {P : Program} {w : World} {k : IntKind} {i : Int} {y : Nat} {code : BoundsCode} (h0 : 0 ≤ i) (h1 : i ≤ y) : (Instr.sliceBound (.int k i) y code).run P w = .ok i.toNat w := by
 simp [Instr.sliceBound, asIntOf, h0, h1]
theorem slice_run {P : Program} {t e esz : Nat} {by_ : Nat} (hok : (TI.slice e esz by_).okB P t = true) {A : Option Addr} {n c : Nat} {lo hi : Option Value} {l h : Int}
  (hlo : (lo = none ∧ l = 0) ∨ ∃ k, lo = some (.int k l)) (hhi : (hi = none ∧ h = n) ∨ ∃ k, hi = some (.int k h)) (h0 : 0 ≤ l) (h1 : l ≤ h) (h2 : h ≤ (n : Int)) (hc : n ≤ c) (w : World) :
  (Instr.sliceAt t (.slice A n c) lo hi none).run P w = .ok (.slice (if c = l.toNat then A else A.map (·.add (l.toNat * esz))) (h.toNat - l.toNat) (c - l.toNat)) w := by
 obtain ⟨fi, hu, hi', hsz, hpos, _⟩ := ok_slice hok
 rcases hlo with ⟨rfl, rfl⟩ | ⟨k, rfl⟩ <;> rcases hhi with ⟨rfl, rfl⟩ | ⟨k', rfl⟩
 all_goals simp only [Instr.sliceAt, Instr.slice, Instr.sliceBounds, Sem.run_bind, run_underlying hu, Result.andThen_ok, Sem.run_pure, sizeOf_run hi', hsz, pure_bind, if_true]
 all_goals (try rw [sliceBound_ok (by omega) (by omega)])
 all_goals (try simp only [Result.andThen_ok])
 all_goals (try rw [sliceBound_ok (by omega) (by omega)])
 all_goals (simp [sizeOf_run hi', hsz]; done)
theorem slicev_sound {P : Program} {T : List (Nat × TI)} (hT : tabB P T = true) {g : Bool} {t e esz by_ : Nat} (hl : look T t = some (.slice e esz by_)) {x : AV} {lo hi : Option AV} {K : AV → Prop} (h : slicev g esz x lo hi K) :
  ∃ y, K y ∧ ∀ F τ w u (lv hv : Option Value), g = true → Rep F w τ x u →
   ((lo = none ∧ lv = none) ∨ ∃ z v, lo = some z ∧ lv = some v ∧ Rep F w τ z v) → ((hi = none ∧ hv = none) ∨ ∃ z v, hi = some z ∧ hv = some v ∧ Rep F w τ z v) →
   ∃ r, Rep F w τ y r ∧ ∀ w', (Instr.sliceAt t u lv hv none).run P w' = .ok r w' := by
 have hok := tabB_look hT hl
 have conv : ∀ F τ w (x : Option AV) (xv : Option Value) (d i : Int), ((x = none ∧ i = d) ∨ ∃ k, x = some (.val (.int k i))) → ((x = none ∧ xv = none) ∨ ∃ z v, x = some z ∧ xv = some v ∧ Rep F w τ z v) → (xv = none ∧ i = d) ∨ ∃ k, xv = some (.int k i) := by
  intro F τ w x xv d i h1 h2
  rcases h1 with ⟨rfl, rfl⟩ | ⟨k, rfl⟩
  ·rcases h2 with ⟨_, rfl⟩ | ⟨z, v, h, _⟩
   ·exact .inl ⟨rfl, rfl⟩
   ·cases h
  ·rcases h2 with ⟨h, _⟩ | ⟨z, v, h, rfl, hr⟩
   ·cases h
   ·injection h with h; subst h; cases hr; exact .inr ⟨k, rfl⟩
 unfold slicev at h
 split at h
 ·rename_i sz n row
  obtain ⟨l, h, hlo⟩ := boundv_sound h
  obtain ⟨hh, h, hhi⟩ := boundv_sound h
  obtain ⟨hsz', hg, h2⟩ := chk_spec h
  have hszz := Nat.eq_of_beq_eq_true hsz'
  subst hszz
  refine ⟨_, h2, fun F τ w u lv hv hgt hr h1 h2 => ?_⟩
  obtain ⟨q0, q1, q2⟩ := hg hgt
  cases hr with
  | ro _ _ _ _ A c f p1 p2 p3 p4 p5 =>
   refine ⟨_, ?_, fun w' => slice_run hok (conv F τ w lo lv 0 l hlo h1) (conv F τ w hi hv n hh hhi h2) q0 q1 q2 p1 w'⟩
   have e1 : hh.toNat - l.toNat = (hh - l).toNat := by omega
   rw [e1]
   refine .ro _ _ _ _ _ _ (fun i j => f (l.toNat + i) j) (by omega) (by omega) (fun hn => ?_) (fun i hi => p4 _ (by omega)) (fun i j x hi hx => p5 _ j x (by omega) hx)
   obtain ⟨b, o, rfl, hb, hc⟩ := p3 (by omega)
   rw [if_neg (by omega)]
   refine ⟨b, o + l.toNat * sz, by simp [add_none], hb, fun i j hi hj => ?_⟩
   have := hc (l.toNat + i) j (by omega) hj
   rw [Nat.add_mul, ← Nat.add_assoc] at this
   exact this
 ·rename_i id n
  split at h
  ·obtain ⟨hh, h, hhi⟩ := boundv_sound h
   obtain ⟨hg, h⟩ := h
   refine ⟨_, h, fun F τ w u lv hv hgt hr h1 h2 => ?_⟩
   obtain ⟨q0, q1⟩ := hg hgt
   cases hr with
   | sl _ _ _ A m c hτ hnm hmc hA =>
    refine ⟨_, ?_, fun w' => slice_run hok (.inl ⟨?_, rfl⟩) (conv F τ w hi hv n hh hhi h2) (Int.le_refl 0) q0 q1 (by omega) w'⟩
    ·have e1 : (if c = (0 : Int).toNat then A else A.map (·.add ((0 : Int).toNat * esz))) = A := by
      split
      ·rfl
      ·cases A <;> simp [Addr.add]
     rw [e1]
     simp only [Int.toNat_zero, Nat.sub_zero]
     exact .sl _ _ _ A m c hτ (by omega) hmc hA
    ·rcases h1 with ⟨_, h⟩ | ⟨z, v, h, _⟩
     ·exact h
     ·cases h
  ·rename_i z0
   obtain ⟨l, h, hlo⟩ := boundv_sound h
   obtain ⟨hh, h, hhi⟩ := boundv_sound h
   obtain ⟨hg, h⟩ := h
   refine ⟨_, h, fun F τ w u lv hv hgt hr h1 h2 => ?_⟩
   obtain ⟨q0, q1, q2⟩ := hg hgt
   cases hr with
   | sl _ _ _ A m c hτ hnm hmc hA =>
    refine ⟨_, ?_, fun w' => slice_run hok (conv F τ w _ lv 0 l hlo h1) (conv F τ w hi hv n hh hhi h2) q0 q1 q2 (by omega) w'⟩
    have e1 : hh.toNat - l.toNat = (hh - l).toNat := by omega
    rw [e1]
    exact .so _ _ esz l.toNat _ A m c _ hτ (by omega) hmc hA (fun h => if_neg h) (fun h => by obtain ⟨b, rfl⟩ := hA h; split <;> simp)
 ·rename_i id z off n
  obtain ⟨l, h, hlo⟩ := boundv_sound h
  obtain ⟨hh, h, hhi⟩ := boundv_sound h
  obtain ⟨hz, hg, h⟩ := chk_spec h
  have hzz := Nat.eq_of_beq_eq_true hz
  subst hzz
  refine ⟨_, h, fun F τ w u lv hv hgt hr h1 h2 => ?_⟩
  obtain ⟨q0, q1, q2⟩ := hg hgt
  cases hr with
  | so _ _ _ _ _ A m c Z hτ hnm hmc hA hZ hZ2 =>
   refine ⟨_, ?_, fun w' => slice_run hok (conv F τ w _ lv 0 l hlo h1) (conv F τ w hi hv n hh hhi h2) q0 q1 q2 (by omega) w'⟩
   have e1 : hh.toNat - l.toNat = (hh - l).toNat := by omega
   have e2 : c - off - l.toNat = c - (off + l.toNat) := by omega
   rw [e1, e2]
   refine .so _ _ z (off + l.toNat) _ A m c _ hτ (by omega) hmc hA (fun h => ?_) (fun h => ?_)
   ·rw [if_neg (by omega), hZ (by omega)]
    cases A with
    | none => rfl
    | some a =>
     rcases Nat.eq_zero_or_pos m with h0 | h0
     ·have g1 : off = 0 := by omega
      have g2 : l.toNat = 0 := by omega
      rw [g1, g2]
      simp [Addr.add]
     ·obtain ⟨b, hb⟩ := hA h0
      injection hb with hb; subst hb
      simp only [Option.map_some, add_none]
      rw [Nat.add_mul, Nat.add_assoc]
   ·have h3 := hZ2 h
    split
    ·exact h3
    ·cases Z with
     | none => exact absurd rfl h3
     | some a => simp
 ·exact h.elim
theorem exec_value {P : Program} {x : Sem Value} {v : Value} {w w' : World} (h : x.run P w = .ok v w') : (do pure (Next.value (← x)) : Sem Next).run P w = .ok (.value v) w' := by
 simp [h]
theorem cellsV_sound {x : AV} {K : List AV → Prop} (h : cellsV x K) : ∃ cs, K cs ∧ ∀ F w τ v, Rep F w τ x v → v.cells.size = cs.length ∧ ∀ (j : Nat) (c : AV), cs[j]? = some c → Rep F w τ c (v.cells.getD j undef) := by
 have one : ∀ (x : AV) F w τ v, v.oneCell' = true → Rep F w τ x v → v.cells.size = [x].length ∧ ∀ (j : Nat) (c : AV), [x][j]? = some c → Rep F w τ c (v.cells.getD j undef) := by
  intro x F w τ v ho hr
  have hc : v.cells = #[v] := by cases v <;> first | rfl | simp [Value.oneCell'] at ho
  rw [hc]
  refine ⟨rfl, fun j c hj => ?_⟩
  cases j with
  | zero => simp at hj; subst hj; exact hr
  | succ j => simp at hj
 unfold cellsV at h
 split at h
 ·refine ⟨_, h, fun F w τ v hr => ?_⟩
  cases hr with
  | agg _ _ vs hl hv => exact ⟨hl.symm, hv⟩
 ·obtain ⟨h1, h2⟩ := chk_spec h
  refine ⟨_, h2, fun F w τ v hr => ?_⟩
  cases hr; exact one _ F w τ _ h1 (.val _ _)
 ·refine ⟨_, h, fun F w τ v hr => one _ F w τ v (by cases hr; rfl) hr⟩
 ·refine ⟨_, h, fun F w τ v hr => one _ F w τ v (by cases hr; rfl) hr⟩
 ·refine ⟨_, h, fun F w τ v hr => one _ F w τ v (by cases hr; rfl) hr⟩
 ·refine ⟨_, h, fun F w τ v hr => one _ F w τ v (by cases hr; rfl) hr⟩
 ·refine ⟨_, h, fun F w τ v hr => one _ F w τ v (by cases hr; rfl) hr⟩
 ·refine ⟨_, h, fun F w τ v hr => one _ F w τ v (by cases hr; rfl) hr⟩
 ·refine ⟨_, h, fun F w τ v hr => one _ F w τ v (by cases hr; rfl) hr⟩
 ·exact h.elim
theorem zero_info {P : Program} {t : Nat} {vs : List Value} (h : zeroCells P t = some vs) : ∃ i z, P.info? t = some i ∧ i.zero = some z ∧ z.cells.toList = vs := by
 unfold zeroCells at h
 cases hi : P.info? t with
 | none => rw [hi] at h; cases h
 | some i =>
  cases hz : i.zero with
  | none => rw [hi] at h; simp [hz] at h
  | some z => rw [hi] at h; simp [hz] at h; exact ⟨i, z, rfl, hz, by simpa using h⟩
theorem rep_zero {F : Nat → Prop} {w : World} {τ : Nm → Option Value} {zs : List Value} {j : Nat} {x : AV} (hx : (zs.map AV.val)[j]? = some x) : Rep F w τ x (zs.toArray.getD j undef) := by
 rw [List.getElem?_map] at hx
 cases hv : zs[j]? with
 | none => rw [hv] at hx; cases hx
 | some v =>
  rw [hv] at hx; injection hx with hx; subst hx
  have : zs.toArray.getD j undef = v := by simp [hv]
  rw [this]; exact .val _ _
theorem run_zeroValue {P : Program} {t : Nat} {i : TypeInfo} {z : Value} (hi : P.info? t = some i) (hz : i.zero = some z) (w : World) : (zeroValue t).run P w = .ok z w := by
 simp [zeroValue, typeInfo, hi, hz]
theorem run_places {P : Program} (fs : Array Field) (hs : ∀ f ∈ fs.toList, (P.info? f.type).isSome = true) (w : World) :
  (fs.mapM fun f => do pure (f.offset, ← sizeOf f.type) : Sem (Array (Nat × Nat))).run P w = .ok (fs.toList.map fun f => (f.offset, szOf P f.type)).toArray w := by
 rw [Array.mapM_eq_mapM_toList]
 generalize fs.toList = l at *
 have : ∀ l : List Field, (∀ f ∈ l, (P.info? f.type).isSome = true) → (l.mapM fun f => do pure (f.offset, ← sizeOf f.type) : Sem (List (Nat × Nat))).run P w = .ok (l.map fun f => (f.offset, szOf P f.type)) w := by
  intro l
  induction l with
  | nil => intro _; rfl
  | cons f r ih =>
   intro h
   obtain ⟨i, hi⟩ := Option.isSome_iff_exists.1 (h f (List.mem_cons_self ..))
   rw [List.mapM_cons]
   simp only [Sem.run_bind, sizeOf_run hi, Result.andThen_ok, Sem.run_pure, ih fun g hg => h g (List.mem_cons_of_mem _ hg)]
   try simp [szOf, hi]
 simp only [Sem.run_map, this l hs]
 rfl
theorem fold_set (off : Nat) : ∀ (cs : List Value) (k : Nat) (arr : Array Value), off + k + cs.length ≤ arr.size →
  (((cs.zipIdx k).foldl (fun a (x : Value × Nat) => a.setIfInBounds (off + x.2) x.1) arr).size = arr.size ∧ ∀ j, ((cs.zipIdx k).foldl (fun a (x : Value × Nat) => a.setIfInBounds (off + x.2) x.1) arr).getD j undef = if off + k ≤ j ∧ j < off + k + cs.length then cs.getD (j - (off + k)) undef else arr.getD j undef)
 | [], k, arr, h => by
  refine ⟨rfl, fun j => ?_⟩
  rw [if_neg (by simp only [List.length_nil]; omega)]; rfl
 | c :: r, k, arr, h => by
  simp only [List.length_cons] at h
  obtain ⟨h1, h2⟩ := fold_set off r (k + 1) (arr.setIfInBounds (off + k) c) (by simp; omega)
  simp only [List.zipIdx_cons, List.foldl_cons]
  refine ⟨by rw [h1]; simp, fun j => ?_⟩
  rw [h2]
  by_cases e : j = off + k
  ·subst e
   rw [if_neg (by omega), if_pos (by simp only [List.length_cons]; omega)]
   have : off + k < arr.size := by omega
   simp [this]
  ·by_cases e2 : off + k + 1 ≤ j ∧ j < off + k + 1 + r.length
   ·rw [if_pos (by omega), if_pos (by simp only [List.length_cons]; omega)]
    rw [show j - (off + k) = (j - (off + (k + 1))) + 1 by omega, List.getD_cons_succ]
   ·rw [if_neg (by omega), if_neg (by simp only [List.length_cons]; omega)]
    simp only [Array.getD_eq_getD_getElem?]
    rw [Array.getElem?_setIfInBounds_ne (by omega)]
theorem overlay_sound {g : Bool} {s : St} {place : Nat → Option (Nat × Nat)} : ∀ (parts : List (Nat × Operand)) (base : List AV) {K : List AV → Prop}, overlay g s place parts base K →
  ∃ cs, K cs ∧ ∀ F τ w n (a : Act), g = true → EnvR F τ w n s.env a.tmps → ∀ bs : Array Value, bs.size = base.length → (∀ (j : Nat) (x : AV), base[j]? = some x → Rep F w τ x (bs.getD j undef)) →
   ∃ vs, Instr.fill place bs (parts.map fun x => (x.1, a.eval x.2)) = some vs ∧ Rep F w τ (.agg cs) (.agg vs)
 | [], base, K, h => ⟨base, h, fun F τ w n a hg he bs h1 h2 => ⟨bs, rfl, .agg _ _ _ h1.symm h2⟩⟩
 | (i, x) :: r, base, K, h => by
  simp only [overlay] at h
  split at h
  ·rename_i o sz hp
   obtain ⟨xv, h, hx⟩ := aget_sound h
   obtain ⟨cs, h, hc⟩ := cellsV_sound h
   obtain ⟨c1, h⟩ := chk_spec h
   obtain ⟨c2, h⟩ := chk_spec h
   have c1 := Nat.eq_of_beq_eq_true c1
   have c2 := Nat.le_of_ble_eq_true c2
   obtain ⟨rs, hK, hs⟩ := overlay_sound r _ h
   refine ⟨rs, hK, fun F τ w n a hg he bs h1 h2 => ?_⟩
   obtain ⟨q1, q2⟩ := hc F w τ _ (hx F τ w n a hg he)
   have hsz : (a.eval x).cells.toList.length = sz := by rw [Array.length_toList, q1, c1]
   obtain ⟨f1, f2⟩ := fold_set o (a.eval x).cells.toList 0 bs (by omega)
   obtain ⟨vs, e1, e2⟩ := hs F τ w n a hg he (((a.eval x).cells.toList.zipIdx 0).foldl (fun a (x : Value × Nat) => a.setIfInBounds (o + x.2) x.1) bs) (by rw [f1]; simp; omega) (fun j y hy => by
    rw [f2]
    by_cases j1 : j < o
    ·rw [if_neg (by omega)]
     rw [List.append_assoc, List.getElem?_append_left (by simp; omega), List.getElem?_take, if_pos j1] at hy
     exact h2 j y hy
    ·by_cases j2 : j < o + sz
     ·rw [if_pos (by omega)]
      have hlen : (base.take o).length = o := by simp; omega
      rw [List.append_assoc, List.getElem?_append_right (by omega), List.getElem?_append_left (by omega), hlen] at hy
      have := q2 (j - o) y hy
      simpa using this
     ·rw [if_neg (by omega)]
      have hlen : (base.take o ++ cs).length = o + sz := by simp; omega
      rw [List.getElem?_append_right (by omega), hlen, List.getElem?_drop] at hy
      exact h2 j y (by rw [← hy]; congr 1; omega))
   refine ⟨vs, ?_, e2⟩
   simp only [List.map_cons, Instr.fill, hp]
   rw [if_neg (by have hq : (a.eval x).cells.size = sz := by rw [q1, c1]
                  simp [hq]; omega)]
   have e3 : (a.eval x).cells.zipIdx.foldl (fun cs (c, j) => cs.setIfInBounds (o + j) c) bs = ((a.eval x).cells.toList.zipIdx 0).foldl (fun a (x : Value × Nat) => a.setIfInBounds (o + x.2) x.1) bs := by
    rw [← Array.foldl_toList, Array.toList_zipIdx]
   rw [e3]; exact e1
  ·exact h.elim
theorem ok_str {P : Program} {t : Nat} (h : TI.str.okB P t = true) : P.underlying t = some .string := by
 simp only [TI.okB, Bool.and_eq_true] at h
 obtain ⟨h1, _⟩ := h
 split at h1
 ·assumption
 ·cases h1
theorem arrSl_spec {n esz : Nat} {x : AV} {lo hi : Option AV} {K : AV → Prop} (h : arrSl n esz x lo hi K) :
  ∃ cs, x = .ptr cs ∧ lo = none ∧ hi = none ∧ n * esz ≤ cs.length ∧ n ≤ 1048576 ∧ K (.ro esz n fun i => (cs.drop (i * esz)).take esz) := by
 unfold arrSl at h
 split at h
 ·obtain ⟨c1, h⟩ := chk_spec h
  obtain ⟨c2, h⟩ := chk_spec h
  exact ⟨_, rfl, rfl, rfl, Nat.le_of_ble_eq_true c1, Nat.le_of_ble_eq_true c2, h⟩
 ·exact h.elim
theorem qop_sound (B : Tabs) {g : Bool} {s : St} {op : Op} {K : AV → Prop} (h : qop B g s op K) :
  ∃ y, K y ∧ ∀ cx τ F w (a : Act), g = true → RelA cx τ F s a w → ∃ v, Rep F w τ y v ∧ ∀ (o : Oper), o.op = op → ∀ w', Same F τ w w' → (execOp a.eval o).run B.P w' = .ok (.value v) w' := by
 have hT := B.hT
 unfold qop at h
 split at h
 case h_1 x =>
  obtain ⟨y, hy, hs⟩ := aget_sound h
  exact ⟨y, hy, fun cx τ F w a hg hr => ⟨_, hs F τ w cx.n a hg hr.env, fun o ho w' hb => by simp [execOp, ho]⟩⟩
 case h_2 x =>
  obtain ⟨y, hy, hs⟩ := aget_sound h
  exact ⟨y, hy, fun cx τ F w a hg hr => ⟨_, hs F τ w cx.n a hg hr.env, fun o ho w' hb => by simp [execOp, ho]⟩⟩
 case h_3 c x y =>
  obtain ⟨cv, h, hc⟩ := aget_sound h
  split at h
  ·rename_i b
   obtain ⟨xv, h, hx⟩ := aget_sound h
   obtain ⟨yv, h, hy⟩ := aget_sound h
   split at h
   ·rename_i p q
    refine ⟨_, h, fun cx τ F w a hg hr => ⟨_, .val _ _, fun o ho w' hb => ?_⟩⟩
    have h1 := hc F τ w cx.n a hg hr.env
    generalize hce : a.eval c = cval at h1
    cases h1
    cases b with
    | true =>
     have h2 := hx F τ w cx.n a (by simp [hg]) hr.env
     generalize hxe : a.eval x = xval at h2
     cases h2
     simp [execOp, ho, asBool, hxe, hce]
    | false =>
     have h2 := hy F τ w cx.n a (by simp [hg]) hr.env
     generalize hxe : a.eval y = xval at h2
     cases h2
     simp [execOp, ho, asBool, hxe, hce]
   ·exact h.elim
  ·exact h.elim
 case h_4 t x =>
  obtain ⟨xv, h, hx⟩ := aget_sound h
  obtain ⟨y, hy, hs⟩ := loadv_sound hT h
  refine ⟨y, hy, fun cx τ F w a hg hr => ?_⟩
  obtain ⟨v, h1, h2⟩ := hs cx τ F w _ hg hr.wr (hx F τ w cx.n a hg hr.env)
  exact ⟨v, h1, fun o ho w' hb => by simp only [execOp, ho]; exact exec_value (h2 w' hb)⟩
 case h_5 bop t x y t' =>
  obtain ⟨xv, h, hx⟩ := aget_sound h
  obtain ⟨yv, h, hy⟩ := aget_sound h
  obtain ⟨z, hz, hs⟩ := bin_sound hT h
  refine ⟨z, hz, fun cx τ F w a hg hr => ?_⟩
  obtain ⟨v, h1, h2⟩ := hs F τ w _ _ hg (hx F τ w cx.n a hg hr.env) (hy F τ w cx.n a hg hr.env)
  exact ⟨v, h1, fun o ho w' hb => by simp only [execOp, ho]; exact exec_value (h2 w' x y)⟩
 case h_6 uop t x =>
  obtain ⟨xv, h, hx⟩ := aget_sound h
  unfold unv at h
  split at h
  ·refine ⟨_, h, fun cx τ F w a hg hr => ⟨_, .val _ _, fun o ho w' hb => ?_⟩⟩
   have h1 := hx F τ w cx.n a hg hr.env
   generalize hxe : a.eval x = xval at h1
   cases h1
   simp [execOp, ho, hxe, Op.unary]
  ·refine ⟨_, h, fun cx τ F w a hg hr => ⟨_, .val _ _, fun o ho w' hb => ?_⟩⟩
   have h1 := hx F τ w cx.n a hg hr.env
   generalize hxe : a.eval x = xval at h1
   cases h1
   simp [execOp, ho, hxe, Op.unary, Op.intArith]
  ·exact h.elim
 case h_7 t x f =>
  obtain ⟨xv, h, hx⟩ := aget_sound h
  obtain ⟨y, hy, hs⟩ := fieldv_sound hT h
  refine ⟨y, hy, fun cx τ F w a hg hr => ?_⟩
  obtain ⟨v, h1, h2⟩ := hs F τ w _ (hx F τ w cx.n a hg hr.env)
  exact ⟨v, h1, fun o ho w' hb => by simp only [execOp, ho]; exact exec_value (h2 w')⟩
 case h_8 t x i =>
  obtain ⟨xv, h, hx⟩ := aget_sound h
  obtain ⟨iv, h, hi⟩ := aget_sound h
  obtain ⟨y, hy, hs⟩ := indexv_sound hT h
  refine ⟨y, hy, fun cx τ F w a hg hr => ?_⟩
  obtain ⟨v, h1, h2⟩ := hs F τ w _ _ hg (hx F τ w cx.n a hg hr.env) (hi F τ w cx.n a hg hr.env)
  exact ⟨v, h1, fun o ho w' hb => by simp only [execOp, ho]; exact exec_value (h2 w')⟩
 case h_9 t x i =>
  obtain ⟨xv, h, hx⟩ := aget_sound h
  obtain ⟨iv, h, hi⟩ := aget_sound h
  split at h
  ·rename_i n esz one cs k i' hl _
   obtain ⟨hk, hg', h⟩ := chk_spec h
   simp only [Bool.and_eq_true] at hk
   obtain ⟨e', fi, _, hu, hfi, hsz, _, _, hone⟩ := ok_array (tabB_look hT hl)
   obtain ⟨d, hd, hagg⟩ := hone hk.1
   have hsz1 : fi.size = 1 := by rw [hsz]; exact Nat.eq_of_beq_eq_true hk.2
   refine ⟨_, h, fun cx τ F w a hg hr => ?_⟩
   obtain ⟨q0, q1, q2⟩ := hg' hg
   have h1 := hx F τ w cx.n a hg hr.env
   have h2 := hi F τ w cx.n a hg hr.env
   generalize hxe : a.eval x = xval at h1
   generalize hie : a.eval i = ival at h2
   cases h2
   cases h1 with
   | agg _ _ vs hl hv =>
    refine ⟨vs.getD i'.toNat undef, hv _ _ (by rw [List.getD_eq_getElem?_getD, List.getElem?_eq_getElem q2]; rfl), fun o ho w' hb => ?_⟩
    have hlt : i'.toNat < vs.size := by omega
    simp only [execOp, ho]
    refine exec_value ?_
    simp [Instr.index, hxe, hie, asIntOf, run_underlying hu, q0, q1, sizeOf_run hfi, hsz1, part, isAgg_run hd, hagg, hlt]
  ·exact h.elim
 case h_10 x i =>
  obtain ⟨xv, h, hx⟩ := aget_sound h
  split at h
  ·rename_i cs
   obtain ⟨hi, h⟩ := chk_spec h
   have hi : i < cs.length := by simpa [Nat.blt_eq] using hi
   refine ⟨_, h, fun cx τ F w a hg hr => ?_⟩
   have h1 := hx F τ w cx.n a hg hr.env
   generalize hxe : a.eval x = xval at h1
   cases h1 with
   | tup _ _ vs hl hv =>
    refine ⟨vs.getD i undef, hv i _ (by rw [List.getD_eq_getElem?_getD, List.getElem?_eq_getElem hi]; rfl), fun o ho w' hb => ?_⟩
    have hi' : i < vs.size := by omega
    simp [execOp, ho, hxe, Instr.extract, hi']
  ·exact h.elim
 case h_11 x =>
  obtain ⟨xv, h, hx⟩ := aget_sound h
  split at h
  ·refine ⟨_, h, fun cx τ F w a hg hr => ?_⟩
   have h1 := hx F τ w cx.n a hg hr.env
   generalize hxe : a.eval x = xval at h1
   refine ⟨xval, h1, fun o ho w' hb => ?_⟩
   cases h1
   simp [execOp, ho, hxe]
  ·refine ⟨_, h, fun cx τ F w a hg hr => ?_⟩
   have h1 := hx F τ w cx.n a hg hr.env
   generalize hxe : a.eval x = xval at h1
   refine ⟨xval, h1, fun o ho w' hb => ?_⟩
   cases h1
   simp [execOp, ho, hxe]
  ·refine ⟨_, h, fun cx τ F w a hg hr => ?_⟩
   have h1 := hx F τ w cx.n a hg hr.env
   generalize hxe : a.eval x = xval at h1
   refine ⟨xval, h1, fun o ho w' hb => ?_⟩
   cases h1
   simp [execOp, ho, hxe]
  ·exact h.elim
 case h_12 src dst x =>
  obtain ⟨xv, h, hx⟩ := aget_sound h
  split at h
  ·rename_i k1 k2 k3 n hl1 hl2
   have o1 := ok_int (tabB_look hT hl1)
   have o2 := ok_int (tabB_look hT hl2)
   refine ⟨_, h, fun cx τ F w a hg hr => ⟨_, .val _ _, fun o ho w' hb => ?_⟩⟩
   have h1 := hx F τ w cx.n a hg hr.env
   generalize hxe : a.eval x = xval at h1
   cases h1
   simp [execOp, ho, hxe, convert, run_underlying o1, run_underlying o2, Conv.intToInt]
  ·rename_i e esz by_ sz n row hl1 hl2
   obtain ⟨hz, h⟩ := chk_spec h
   have hz := Nat.eq_of_beq_eq_true hz
   subst hz
   obtain ⟨fi, o1, _⟩ := ok_slice (tabB_look hT hl1)
   have o2 := ok_str (tabB_look hT hl2)
   split at h
   ·rename_i hl3
    have o3 := ok_int (tabB_look hT hl3)
    obtain ⟨hn, hrow, h⟩ := h
    refine ⟨_, h, fun cx τ F w a hg hr => ⟨_, .val _ _, fun o ho w' hb => ?_⟩⟩
    have h1 := hx F τ w cx.n a hg hr.env
    generalize hxe : a.eval x = xval at h1
    cases h1 with
    | ro _ _ _ _ A c f p1 p2 p3 p4 p5 =>
     simp only [execOp, ho, hxe]
     refine exec_value ?_
     rw [run_convert_bytes_string w' src dst e A n c o1 o3 o2]
     cases A with
     | none =>
      have hn0 : n = 0 := by
       rcases Nat.eq_zero_or_pos n with h | h
       ·exact h
       ·obtain ⟨b, o, hA, _⟩ := p3 h; cases hA
      subst hn0
      simp [Conv.bytesToString, bytesOf]
     | some ad =>
      have key : (loadCells ad n).run B.P w' = .ok (((List.range n).map hn).map (Value.int .u8)).toArray w' := by
       rw [run_loadCells w' ad n (fun j => .int .u8 (hn j)) (fun j hj => ?_)]
       ·simp
       ·obtain ⟨b, o', hA, hFb, hc⟩ := p3 (by omega)
        injection hA with hA; subst hA
        have hx := hc j 0 hj (by omega)
        rw [add_none, World.cell?_of_block (w := w) (hb b (.inl hFb))]
        have h5 := p5 j 0 (.int .u8 (hn j)) hj (by rw [hrow hg j hj]; rfl)
        generalize hfe : f j 0 = fv at h5
        cases h5
        rw [hfe] at hx
        simpa using hx
      exact run_bytesToString w' ad n c _ key
   ·exact h.elim
  ·rename_i e esz by_ n c hl1 hl2
   obtain ⟨fi, o1, _⟩ := ok_slice (tabB_look hT hl1)
   have o2 := ok_str (tabB_look hT hl2)
   split at h
   ·rename_i hl3
    have o3 := ok_int (tabB_look hT hl3)
    refine ⟨_, h, fun cx τ F w a hg hr => ⟨_, .val _ _, fun o ho w' hb => ?_⟩⟩
    have h1 := hx F τ w cx.n a hg hr.env
    generalize hxe : a.eval x = xval at h1
    cases h1
    simp only [execOp, ho, hxe]
    refine exec_value ?_
    rw [run_convert_bytes_string w' src dst e none n c o1 o3 o2]
    simp [Conv.bytesToString]
   ·exact h.elim
  ·exact h.elim
 case h_13 t x lo hi =>
  obtain ⟨xv, h, hx⟩ := aget_sound h
  obtain ⟨lv, h, hlo⟩ := agetO_sound h
  obtain ⟨hv, h, hhi⟩ := agetO_sound h
  split at h
  ·rename_i e esz by_ hl
   obtain ⟨y, hy, hs⟩ := slicev_sound hT hl h
   refine ⟨y, hy, fun cx τ F w a hg hr => ?_⟩
   obtain ⟨v, h1, h2⟩ := hs F τ w _ (lo.map a.eval) (hi.map a.eval) hg (hx F τ w cx.n a hg hr.env)
    (by rcases hlo F τ w cx.n a hg hr.env with ⟨rfl, rfl⟩ | ⟨xo, z, rfl, rfl, hr⟩
        ·exact .inl ⟨rfl, rfl⟩
        ·exact .inr ⟨_, _, rfl, rfl, hr⟩)
    (by rcases hhi F τ w cx.n a hg hr.env with ⟨rfl, rfl⟩ | ⟨xo, z, rfl, rfl, hr⟩
        ·exact .inl ⟨rfl, rfl⟩
        ·exact .inr ⟨_, _, rfl, rfl, hr⟩)
   exact ⟨v, h1, fun o ho w' hb => by simp only [execOp, ho, Option.map_none]; exact exec_value (h2 w')⟩
  ·rename_i n esz one hl
   obtain ⟨e, fi, _, hu, hif, hsz, _, _, _⟩ := ok_array (tabB_look hT hl)
   obtain ⟨cs, rfl, rfl, rfl, c1, c2, h⟩ := arrSl_spec h
   ·skip
    refine ⟨_, h, fun cx τ F w a hg hr => ?_⟩
    have h1 := hx F τ w cx.n a hg hr.env
    have hlo' : lo.map a.eval = none := by
     rcases hlo F τ w cx.n a hg hr.env with ⟨e, _⟩ | ⟨xo, z, _, hz, _⟩
     ·rw [e]; rfl
     ·cases hz
    have hhi' : hi.map a.eval = none := by
     rcases hhi F τ w cx.n a hg hr.env with ⟨e, _⟩ | ⟨xo, z, _, hz, _⟩
     ·rw [e]; rfl
     ·cases hz
    generalize hxe : a.eval x = xval at h1
    cases h1 with
    | ptr _ _ b o f p1 p2 p3 =>
     have hbound : ∀ i j, i < n → j < esz → i * esz + j < cs.length := fun i j hi hj => by
      have : (i + 1) * esz ≤ n * esz := Nat.mul_le_mul_right _ hi
      rw [Nat.add_mul, Nat.one_mul] at this; omega
     refine ⟨.slice (some ⟨b, o, none⟩) n n, ?_, fun op' ho w' hb => ?_⟩
     ·refine .ro _ _ _ _ _ _ (fun i j => f (i * esz + j)) (Nat.le_refl _) (by unfold maxLen; omega) (fun hn => ⟨b, o, rfl, p1, fun i j hi hj => ?_⟩) (fun i hi => ?_) (fun i j y hi hy => ?_)
      ·rw [Nat.add_assoc]; exact p2 _ (hbound i j hi hj)
      ·simp only [List.length_take, List.length_drop]
       have h1 : i * esz + esz ≤ cs.length := by
        have : (i + 1) * esz ≤ n * esz := Nat.mul_le_mul_right _ hi
        rw [Nat.add_mul, Nat.one_mul] at this; omega
       omega
      ·rw [List.getElem?_take] at hy
       split at hy
       ·rw [List.getElem?_drop] at hy
        exact p3 _ _ hy
       ·cases hy
     ·simp only [execOp, ho, hxe, hlo', hhi', Option.map_none]
      refine exec_value ?_
      simp [Instr.sliceAt, run_underlying hu, Instr.sureAddr, Instr.sliceBounds, sizeOf_run hif, add_none]
  ·exact h.elim
 case h_14 t parts =>
  split at h
  ·rename_i size offs zs hl hz
   have hok := tabB_look hT hl
   obtain ⟨fs, i, hu, hi, hsz, hoffs, hsome⟩ := ok_struct hok
   obtain ⟨cs, h, hs⟩ := overlay_sound _ _ h
   refine ⟨_, h, fun cx τ F w a hg hr => ?_⟩
   obtain ⟨vs, h1, h2⟩ := hs F τ w cx.n a hg hr.env zs.toArray (by simp) (fun j x hx => rep_zero hx)
   refine ⟨.agg vs, h2, fun o ho w' hb => ?_⟩
   simp only [execOp, ho]
   refine exec_value ?_
   obtain ⟨i', z, hi', hzz, hzc⟩ := zero_info (B.hZ.at_ hz)
   rw [hi] at hi'; injection hi' with hi'; subst hi'
   have hm : (fs.mapM fun f => do pure (f.offset, ← sizeOf f.type) : Sem (Array (Nat × Nat))).run B.P w' = .ok offs.toArray w' := by
    rw [← hoffs]; exact run_places fs hsome w'
   have hzc' : z.cells = zs.toArray := by rw [← hzc]
   simp only [Instr.build, Sem.run_bind, run_zeroValue hi hzz, Result.andThen_ok, run_underlying hu, hm, hzc']
   have h1' : Instr.fill (fun x => offs.toArray[x]?) zs.toArray (parts.map fun (i, x) => (i, a.eval x)).toList = some vs := by
    have e : (fun x : Nat => offs.toArray[x]?) = fun i => offs[i]? := by funext x; simp
    rw [e, Array.toList_map]; exact h1
   simp only [h1']
   rfl
  ·rename_i n esz one zs hl hz
   have hok := tabB_look hT hl
   obtain ⟨e, fi, i, hu, hfi, hesz, hi, _, _⟩ := ok_array hok
   obtain ⟨cs, h, hs⟩ := overlay_sound _ _ h
   refine ⟨_, h, fun cx τ F w a hg hr => ?_⟩
   obtain ⟨vs, h1, h2⟩ := hs F τ w cx.n a hg hr.env zs.toArray (by simp) (fun j x hx => rep_zero hx)
   refine ⟨.agg vs, h2, fun o ho w' hb => ?_⟩
   simp only [execOp, ho]
   refine exec_value ?_
   obtain ⟨i', z, hi', hzz, hzc⟩ := zero_info (B.hZ.at_ hz)
   rw [hi] at hi'; injection hi' with hi'; subst hi'
   have hzc' : z.cells = zs.toArray := by rw [← hzc]
   simp only [Instr.build, Sem.run_bind, run_zeroValue hi hzz, Result.andThen_ok, run_underlying hu, sizeOf_run hfi, hesz, hzc']
   have h1' : Instr.fill (fun i => some (i * esz, esz)) zs.toArray (parts.map fun (i, x) => (i, a.eval x)).toList = some vs := by
    rw [Array.toList_map]; exact h1
   simp only [h1']
   rfl
  ·exact h.elim
 case h_15 f first caps =>
  split at h
  ·rename_i hf
   obtain ⟨cs, h, hl, hs⟩ := agets_sound h
   refine ⟨_, h, fun cx τ F w a hg hr => ⟨.func (.func f) #[] (caps.map a.eval), .fn _ f cs _ (by simp [hl]) (fun j c hc => ?_), fun o ho w' hb => ?_⟩⟩
   ·obtain ⟨x, h1, h2⟩ := hs F τ w cx.n a hg hr.env j c hc
    have h1' : caps[j]? = some x := by simpa using h1
    have : (caps.map a.eval).getD j undef = a.eval x := by simp [Array.getD_eq_getD_getElem?, Array.getElem?_map, h1']
    rw [this]; exact h2
   ·have hf' : first = #[] := by cases first; simp_all
    subst hf'
    simp [execOp, ho, Instr.makeFunc]
  ·exact h.elim
 case h_16 as ts =>
  split at h
  ·rename_i x y has
   obtain ⟨xv, h, hx⟩ := aget_sound h
   obtain ⟨yv, h, hy⟩ := aget_sound h
   have has' : as = #[x, y] := by cases as; simp_all
   subst has'
   unfold minmaxv at h
   split at h
   ·obtain ⟨hk, h2⟩ := chk_spec h
    have := ikB_spec hk; subst this
    rename_i k p q _
    refine ⟨_, h2, fun cx τ F w a hg hr => ⟨_, .val _ _, fun o ho w' hb => ?_⟩⟩
    have h1 := hx F τ w cx.n a hg hr.env
    have h3 := hy F τ w cx.n a hg hr.env
    generalize hxe : a.eval x = xval at h1
    generalize hye : a.eval y = yval at h3
    cases h1; cases h3
    have e : (if q < p then q else p) = min p q := by simp only [Int.min_def]; split <;> split <;> omega
    simp [execOp, ho, resolve, invoke, builtin, Builtin.min_, Builtin.min2, hxe, hye, e]
   ·exact h.elim
  ·exact h.elim
 case h_17 as ts =>
  split at h
  ·rename_i x y has
   obtain ⟨xv, h, hx⟩ := aget_sound h
   obtain ⟨yv, h, hy⟩ := aget_sound h
   have has' : as = #[x, y] := by cases as; simp_all
   subst has'
   unfold minmaxv at h
   split at h
   ·obtain ⟨hk, h2⟩ := chk_spec h
    have := ikB_spec hk; subst this
    rename_i k p q _
    refine ⟨_, h2, fun cx τ F w a hg hr => ⟨_, .val _ _, fun o ho w' hb => ?_⟩⟩
    have h1 := hx F τ w cx.n a hg hr.env
    have h3 := hy F τ w cx.n a hg hr.env
    generalize hxe : a.eval x = xval at h1
    generalize hye : a.eval y = yval at h3
    cases h1; cases h3
    have e : (if p < q then q else p) = max p q := by simp only [Int.max_def]; split <;> split <;> omega
    simp [execOp, ho, resolve, invoke, builtin, Builtin.max_, Builtin.max2, hxe, hye, e]
   ·exact h.elim
  ·exact h.elim
 case h_18 as ts =>
  split at h
  ·rename_i x t has hts
   obtain ⟨xv, h, hx⟩ := aget_sound h
   split at h
   ·rename_i e esz by_ hl
    obtain ⟨fi, hu, _, _, _, _⟩ := ok_slice (tabB_look hT hl)
    have has' : as = #[x] := by cases as; simp_all
    have hts' : ts = #[t] := by cases ts; simp_all
    subst has' hts'
    have key : ∀ (A : Option Addr) (n c : Nat) (a : Act) (o : Oper), o.op = .call { callee := .builtin .len, args := #[x], argTypes := #[t] } → a.eval x = .slice A n c → ∀ w', (execOp a.eval o).run B.P w' = .ok (.value (.int .i64 n)) w' := by
     intro A n c a o ho hxe w'
     simp [execOp, ho, resolve, invoke, builtin, Builtin.len_, hxe, run_underlying hu, goInt]
    unfold lenv at h
    split at h
    ·refine ⟨_, h, fun cx τ F w a hg hr => ⟨_, .val _ _, fun o ho w' hb => ?_⟩⟩
     have h1 := hx F τ w cx.n a hg hr.env
     generalize hxe : a.eval x = xval at h1
     cases h1
     exact key _ _ _ a o ho hxe w'
    ·refine ⟨_, h, fun cx τ F w a hg hr => ⟨_, .val _ _, fun o ho w' hb => ?_⟩⟩
     have h1 := hx F τ w cx.n a hg hr.env
     generalize hxe : a.eval x = xval at h1
     cases h1
     exact key _ _ _ a o ho hxe w'
    ·refine ⟨_, h, fun cx τ F w a hg hr => ⟨_, .val _ _, fun o ho w' hb => ?_⟩⟩
     have h1 := hx F τ w cx.n a hg hr.env
     generalize hxe : a.eval x = xval at h1
     cases h1
     exact key _ _ _ a o ho hxe w'
    ·refine ⟨_, h, fun cx τ F w a hg hr => ⟨_, .val _ _, fun o ho w' hb => ?_⟩⟩
     have h1 := hx F τ w cx.n a hg hr.env
     generalize hxe : a.eval x = xval at h1
     cases h1
     exact key _ _ _ a o ho hxe w'
    ·exact h.elim
   ·exact h.elim
  ·exact h.elim
 case h_19 => exact h.elim
end Go.Abs
namespace Go.Abs
open Go Go.RowKit
set_option linter.unusedVariables false
def AV.oneB : AV → Bool
 | .val v => v.oneCell'
 | .ro _ _ _ | .ptr _ | .obj _ _ | .sl _ _ | .so _ _ _ _ | .rp _ _ _ _ | .fn _ _ => true
 | _ => false
def St.put (s : St) (d : Nat) (x : AV) : St := { s with env := (d, x) :: s.env }
def St.new (s : St) (d : Nat) (x : AV) (o : HO) : St := { env := (d, x) :: s.env, heap := (d, o) :: s.heap }
def HO.mk (r : Bool) (e esz n : Nat) (row : Nat → List AV) : HO := match r with
 | true => .rows e esz n row
 | false => .row e esz n row
def mkK (r : Bool) (e esz n : Nat) (row : Nat → List AV) (K : HO → Prop) : Prop := match r with
 | true => K (.rows e esz n row)
 | false => K (.row e esz n row)
theorem mkK_spec {r : Bool} {e esz n : Nat} {row : Nat → List AV} {K : HO → Prop} (h : mkK r e esz n row K) : K (HO.mk r e esz n row) := by cases r <;> exact h
def rowτ (r : Bool) (τ : Nm → Option Value) : Nm → Option Value := match r with
 | true => τ
 | false => fun _ => none
theorem HO.mk_flat (r : Bool) (e esz n : Nat) (row : Nat → List AV) : (HO.mk r e esz n row).flat = true := by cases r <;> rfl
theorem hok_mk {F : Nat → Prop} {w : World} {τ : Nm → Option Value} {r : Bool} {e esz n : Nat} {row : Nat → List AV} {v : Value} : HOk F w τ (HO.mk r e esz n row) v ↔
  ∃ xs, w.ownsRow 0 e esz v n xs ∧ (∀ i, i < n → (row i).length = esz) ∧ ∀ (i j : Nat) (x : AV), i < n → (row i)[j]? = some x → Rep F w (rowτ r τ) x (xs.getD (i * esz + j) undef) := by
 cases r <;> exact Iff.rfl
def selL (b : Bool) : List AV → List AV → List AV
 | x :: xs, y :: ys => (bif b then x else y) :: selL b xs ys
 | _, ys => ys
def HO.sel (b : Bool) (new old : HO) : HO :=
 match new, old with
 | .cells a, .cells c => .cells (selL b a c)
 | .row _ _ n r, .row e esz n0 r0 => .row e esz (bif b then n else n0) (fun i => bif b then r i else r0 i)
 | .rows _ _ n r, .rows e esz n0 r0 => .rows e esz (bif b then n else n0) (fun i => bif b then r i else r0 i)
 | _, o => o
def HO.upd (o : HO) (ix : List Nat) (new : HO) : HO :=
 match o with
 | .fam D f => .fam D fun jx => HO.sel (decide (jx = ix)) new (f jx)
 | _ => new
def setO (h : List (Nat × HO)) (nm : Nm) (o : HO) : List (Nat × HO) :=
 match h with
 | [] => []
 | (k, v) :: r => if nm.id = k then (k, v.upd nm.ix o) :: r else (k, v) :: setO r nm o
def notFam (h : List (Nat × HO)) (id : Nat) : Bool := match look h id with
 | some (.fam _ _) => false
 | _ => true
def partsV (s : St) (esz : Nat) : Nat → List (Nat × Operand) → (List (List AV) → Prop) → Prop
 | _, [], K => K []
 | k, (i, x) :: r, K => chk (Nat.beq i k) (aget true s x fun xv => cellsV xv fun cs => chk (Nat.beq cs.length esz) (partsV s esz (k + 1) r fun rs => K (cs :: rs)))
def AV.keep (p : Nm → Bool) (x : AV) : AV := bif AV.refsB p x then x else .any
def HO.keep (p : Nm → Bool) (o : HO) : HO :=
 match o with
 | .cells cs => .cells (cs.map (AV.keep p))
 | .row e esz n f => .row e esz n f
 | .rows e esz n f => .rows e esz n fun i => (f i).map (AV.keep p)
 | .fam D f => .fam D fun ix => (f ix).keep p
def notId (id : Nat) (nm : Nm) : Bool := !Nat.beq nm.id id
def St.drop (s : St) (id : Nat) : St :=
 { env := s.env.map fun x => (x.1, x.2.keep (notId id)), heap := (s.heap.filter fun x => !Nat.beq x.1 id).map fun x => (x.1, x.2.keep (notId id)) }
def srcV (s : St) (e esz : Nat) (y : AV) (K : Bool → Nat → (Nat → List AV) → Prop) : Prop :=
 match y with
 | .val (.slice _ 0 _) => K false 0 fun _ => []
 | .ro sz m row => chk (Nat.beq sz esz) ((∀ i, i < m → (row i).all AV.oneB = true) ∧ K false m row)
 | .sl id m => getO true s.heap id fun o => match o with
  | .row e' esz' n row => chk (Nat.beq esz' esz) (chk (Nat.beq e' e) (m ≤ n ∧ (∀ i, i < m → (row i).all AV.oneB = true) ∧ K false m row))
  | .rows e' esz' n row => chk (Nat.beq esz' esz) (chk (Nat.beq e' e) (m ≤ n ∧ (∀ i, i < m → (row i).all AV.oneB = true) ∧ K true m row))
  | _ => False
 | .so id z off m => chk (Nat.beq z esz) (getO true s.heap id fun o => match o with
  | .row e' esz' n row => chk (Nat.beq esz' esz) (chk (Nat.beq e' e) (off + m ≤ n ∧ (∀ i, i < m → (row (off + i)).all AV.oneB = true) ∧ K false m fun i => row (off + i)))
  | _ => False)
 | _ => False
def copyV (s : St) (esz : Nat) (x : AV) (r : Bool) (m : Nat) (row : Nat → List AV) (K : Nat → St → Prop) : Prop :=
 match x with
 | .sl id n => getO true s.heap id fun o => match o with
  | .row e esz' n' row' => chk (Nat.beq esz' esz) (chk (!r) (n ≤ n' ∧ K (min m n) { s with heap := setO s.heap id (.row e esz' n' fun j => if 0 ≤ j ∧ j < 0 + min m n then row (j - 0) else row' j) }))
  | _ => False
 | .so id z off n => chk (Nat.beq z esz) (getO true s.heap id fun o => match o with
  | .row e esz' n' row' => chk (Nat.beq esz' esz) (chk (!r) (off + n ≤ n' ∧ K (min m n) { s with heap := setO s.heap id (.row e esz' n' fun j => if off ≤ j ∧ j < off + min m n then row (j - off) else row' j) }))
  | _ => False)
 | _ => False
def clrN : AV → Nat
 | .sl _ n => n
 | .so _ _ _ n => n
 | _ => 0
def appV (s : St) (d e esz by_ : Nat) (x : AV) (r : Bool) (m : Nat) (row : Nat → List AV) (K : St → Prop) : Prop :=
 match x with
 | .val (.slice none 0 0) => m * by_ ≤ 140737488355328 ∧ mkK r e esz m row fun o => K (s.new d (.sl ⟨d, []⟩ m) o)
 | .sl ⟨id, []⟩ n => match look s.heap id with
  | some (.row e' esz' n' row') => chk (Nat.beq esz' esz) (chk (Nat.beq e' e) (chk (!Nat.beq id d) (n = n' ∧ (n + m) * by_ ≤ 140737488355328 ∧ (match r with
   | true => (∀ i, i < m → AV.refsL (notId id) (row i) = true) ∧ K ((s.drop id).new d (.sl ⟨d, []⟩ (n + m)) (.rows e esz (n + m) fun i => if i < n then row' i else row (i - n)))
   | false => K ((s.drop id).new d (.sl ⟨d, []⟩ (n + m)) (.row e esz (n + m) fun i => if i < n then row' i else row (i - n)))))))
  | some (.rows e' esz' n' row') => chk (Nat.beq esz' esz) (chk (Nat.beq e' e) (chk (!Nat.beq id d) (n = n' ∧ (n + m) * by_ ≤ 140737488355328 ∧ (r = true → ∀ i, i < m → AV.refsL (notId id) (row i) = true) ∧ (∀ i, i < n → AV.refsL (notId id) (row' i) = true) ∧ K ((s.drop id).new d (.sl ⟨d, []⟩ (n + m)) (.rows e esz (n + m) fun i => if i < n then row' i else row (i - n))))))
  | _ => False
 | .so ⟨id, []⟩ z off n => match look s.heap id with
  | some (.row e' esz' n' row') => chk (Nat.beq z esz) (chk (Nat.beq esz' esz) (chk (Nat.beq e' e) (chk (!Nat.beq id d) (chk (!r) (off + n = n' ∧ 0 < n' ∧ 0 < m ∧ (n' + m) * by_ ≤ 140737488355328 ∧ K ((s.drop id).new d (.so ⟨d, []⟩ esz off (n + m)) (.row e esz (n' + m) fun i => if i < n' then row' i else row (i - n'))) ∧ K ((s.drop id).new d (.sl ⟨d, []⟩ (n + m)) (.row e esz (n + m) fun i => if i < n then row' (off + i) else row (i - n))))))))
  | _ => False
 | _ => False
def borrow (s : St) (x : AV) : AV × Bool :=
 match x with
 | .sl ⟨id, []⟩ m => match look s.heap id with
  | some (.row _ esz _ f) => (.ro esz m f, true)
  | _ => (x, false)
 | .so ⟨id, []⟩ z off m => match look s.heap id with
  | some (.row _ esz _ f) => (match Nat.beq z esz with
   | true => (.ro esz m (fun i => f (off + i)), true)
   | false => (x, false))
  | _ => (x, false)
 | x => (x, false)
def borrowL (s : St) : List AV → List AV × Bool
 | [] => ([], false)
 | x :: r => ((borrow s x).1 :: (borrowL s r).1, (borrow s x).2 || (borrowL s r).2)
end Go.Abs
namespace Go.Abs
open Go Go.RowKit
set_option linter.unusedVariables false
theorem selL_true : ∀ (a c : List AV), a.length = c.length → selL true a c = a
 | [], [], _ => rfl
 | x :: xs, y :: ys, h => by simp only [selL, cond_true]; rw [selL_true xs ys (by simpa using h)]
 | [], _ :: _, h => by simp at h
 | _ :: _, [], h => by simp at h
theorem selL_false : ∀ (a c : List AV), selL false a c = c
 | [], c => by unfold selL; rfl
 | x :: xs, [] => rfl
 | x :: xs, y :: ys => by simp only [selL, cond_false]; rw [selL_false xs ys]
theorem sel_false (new old : HO) : HO.sel false new old = old := by
 cases new <;> cases old <;> simp only [HO.sel, cond_false, selL_false]
theorem look_setO (h : List (Nat × HO)) (nm : Nm) (o : HO) (id' : Nat) : look (setO h nm o) id' = if id' = nm.id then (look h id').map (·.upd nm.ix o) else look h id' := by
 induction h with
 | nil => simp [setO, look]
 | cons x r ih =>
  obtain ⟨k, v⟩ := x
  simp only [setO]
  by_cases e : nm.id = k
  ·subst e
   rw [if_pos rfl]
   by_cases e' : id' = nm.id
   ·simp [e', look_cons]
   ·simp [e', look_cons]
  ·rw [if_neg e]
   simp only [look_cons, ih]
   by_cases e' : id' = k
   ·subst e'
    rw [if_pos rfl, if_neg (fun h => e h.symm)]; simp
   ·rw [if_neg e']
    by_cases e2 : id' = nm.id
    ·subst e2; simp [e']
    ·simp [e2, e']
theorem has_set {h : List (Nat × HO)} {nm : Nm} {o o' : HO} (hh : Has h nm o) (hf : o'.flat = true) (hof : o.flat = true) (hs : (∃ D f, look h nm.id = some (.fam D f)) → HO.sel true o' o = o') {nm' : Nm} {y : HO} : Has (setO h nm o') nm' y ↔ (nm' = nm ∧ y = o') ∨ (nm' ≠ nm ∧ Has h nm' y) := by
 obtain ⟨x, h1, h2, h3⟩ := hh
 unfold Has
 simp only [look_setO]
 obtain ⟨id, ix⟩ := nm
 obtain ⟨id', ix'⟩ := nm'
 simp only [Nm.mk.injEq, ne_eq]
 simp only at h1 h2 h3
 by_cases e : id' = id
 ·subst e
  simp only [if_true, h1, Option.map_some, Option.some.injEq, exists_eq_left', true_and]
  cases x with
  | fam D f =>
   simp only [HO.at_, Option.some.injEq] at h2
   have hsel := hs ⟨D, f, h1⟩
   simp only [HO.upd, HO.at_, HO.in_, Option.some.injEq]
   by_cases e2 : ix' = ix
   ·subst e2
    simp only [decide_true, h2, hsel, true_and, not_true, false_and, or_false]
    exact ⟨fun ⟨a, _⟩ => a.symm, fun a => ⟨a.symm, h3⟩⟩
   ·simp only [e2, decide_false, sel_false, false_and, not_false_eq_true, true_and, false_or]
  | _ =>
   have hix : ix = [] := by cases ix <;> simp [HO.at_] at h2 ⊢
   subst hix
   simp only [HO.upd]
   constructor
   ·rintro ⟨a, _⟩; obtain ⟨a1, a2⟩ := (HO.at_flat hf).1 a; exact .inl ⟨a1, a2⟩
   ·rintro (⟨a1, a2⟩ | ⟨a1, a2, _⟩)
    ·exact ⟨(HO.at_flat hf).2 ⟨a1, a2⟩, HO.in_flat hf _⟩
    ·cases ix' <;> simp [HO.at_] at a1 a2
 ·simp only [e, if_false, false_and, false_or, not_false_eq_true, true_and]
theorem RelA.new {cx τ F s a w w'} (h : RelA cx τ F s a w) {d : Nat} (hd : d < cx.n) (hf : look s.heap d = none) {o : HO} (hfl : o.flat = true) {x : AV} {v u : Value} (hb : Below w.heap.size w w')
  (hk : ∀ b, hblk v = some b → w.heap.size ≤ b ∧ b < w'.heap.size)
  (ho : ∀ τ', (∀ id u, τ id = some u → τ' id = some u) → τ' ⟨d, []⟩ = some v → HOk F w' τ' o v ∧ Rep F w' τ' x u) : Rel cx (s.new d x o) (a.put (some d) u) w' := by
 have hnone : τ ⟨d, []⟩ = none := by
  cases e : τ ⟨d, []⟩ with
  | none => rfl
  | some v' => obtain ⟨o', ho'⟩ := h.wr.dom ⟨d, []⟩ v' e; have := ho'.isSome; rw [hf] at this; cases this
 let τ' : Nm → Option Value := fun id => if id.id = d ∧ id.ix = [] then some v else τ id
 have hτ : ∀ id u, τ id = some u → τ' id = some u := fun id u hu => by
  show (if id.id = d ∧ id.ix = [] then some v else τ id) = some u
  rw [if_neg (by rintro ⟨e1, e2⟩; obtain ⟨id, ix⟩ := id; simp only at e1 e2; subst e1 e2; rw [hnone] at hu; cases hu)]; exact hu
 have hτd : τ' ⟨d, []⟩ = some v := if_pos ⟨rfl, rfl⟩
 have hinv : ∀ id u, τ' id = some u → (id = ⟨d, []⟩ ∧ u = v) ∨ (id ≠ ⟨d, []⟩ ∧ τ id = some u) := fun id u hu => by
  have hu' : (if id.id = d ∧ id.ix = [] then some v else τ id) = some u := hu
  split at hu'
  ·rename_i e; injection hu' with hu'; exact .inl ⟨by obtain ⟨id, ix⟩ := id; obtain ⟨e1, e2⟩ := e; simp only at e1 e2; rw [e1, e2], hu'.symm⟩
  ·rename_i e; exact .inr ⟨fun h => e (by rw [h]; exact ⟨rfl, rfl⟩), hu'⟩
 obtain ⟨ho1, ho2⟩ := ho τ' hτ hτd
 have h' := h.later hb
 refine ⟨τ', F, ⟨h'.wr.keeps, h'.wr.fz, fun k id u hFk hu => ?_, h'.wr.fsub, h'.wr.fsup, fun id u b hu hbk => ?_, fun id id' u u' b hu hu' hb1 hb2 => ?_, fun id o' hl => ?_, fun id u hu => ?_, fun id u ho hu => ?_, h.wr.cxn⟩, by simp [Act.put, h.size], by simp [Act.put, h.defers], fun t y ht => ?_⟩
 ·rcases hinv id u hu with ⟨_, rfl⟩ | ⟨_, hu⟩
  ·intro e; have := (hk k e).1; have := h.wr.fz k hFk; omega
  ·exact h.wr.fne k id u hFk hu
 ·rcases hinv id u hu with ⟨_, rfl⟩ | ⟨_, hu2⟩
  ·exact ⟨.inl (Nat.le_trans h.wr.keeps.size (hk b hbk).1), (hk b hbk).2⟩
  ·exact h'.wr.tlt id u b hu2 hbk
 ·rcases hinv id u hu with ⟨e1, e2⟩ | ⟨_, k1⟩ <;> rcases hinv id' u' hu' with ⟨e3, e4⟩ | ⟨_, k2⟩
  ·rw [e1, e3]
  ·subst e2; have := (hk b hb1).1; have := (h.wr.tlt id' u' b k2 hb2).2; omega
  ·subst e4; have := (hk b hb2).1; have := (h.wr.tlt id u b k1 hb1).2; omega
  ·exact h.wr.inj id id' u u' b k1 k2 hb1 hb2
 ·simp only [St.new] at hl
  rcases (has_cons hfl).1 hl with ⟨rfl, rfl⟩ | ⟨hne, hl⟩
  ·exact ⟨v, hτd, ho1⟩
  ·obtain ⟨u, h1, h2⟩ := h'.wr.obj id o' hl
   exact ⟨u, hτ id u h1, h2.mono (fun _ h => h) (fun _ _ => rfl) hτ fun _ _ => rfl⟩
 ·simp only [St.new, has_cons hfl]
  rcases hinv id u hu with ⟨rfl, _⟩ | ⟨hne, hu⟩
  ·exact ⟨o, .inl ⟨rfl, rfl⟩⟩
  ·obtain ⟨o', ho'⟩ := h.wr.dom id u hu
   refine ⟨o', .inr ⟨fun e => ?_, ho'⟩⟩
   have := ho'.isSome; rw [e, hf] at this; cases this
 ·rcases hinv id u hu with ⟨rfl, _⟩ | ⟨_, hu⟩
  ·have := h.wr.cxn; simp only at ho; omega
  ·exact h.wr.old id u ho hu
 ·simp only [St.new] at ht
  rw [look_cons] at ht
  split at ht
  ·rename_i e; subst e; injection ht with ht; subst ht
   refine ⟨hd, ?_⟩
   have : (a.tmps.setIfInBounds t u).getD t undef = u := by
    have ht : t < a.tmps.size := by rw [h.size]; exact hd
    simp [ht]
   simp only [Act.put]; rw [this]; exact ho2
  ·obtain ⟨h1, h2⟩ := h'.env t y ht
   refine ⟨h1, ?_⟩
   have : (a.tmps.setIfInBounds d u).getD t undef = a.tmps.getD t undef := by
    simp only [Array.getD_eq_getD_getElem?]
    rw [Array.getElem?_setIfInBounds_ne (by omega)]
   simp only [Act.put]; rw [this]; exact h2.mono (fun _ h => h) (fun _ _ => rfl) hτ
theorem oneB_sound {F w τ x v} (h : Rep F w τ x v) (ho : x.oneB = true) : v.oneCell' = true := by
 cases h <;> first | rfl | exact ho | simp [AV.oneB] at ho
theorem below_alloc (w : World) (o : Obj) : Below w.heap.size w (w.alloc o) := (Below.refl _ _).alloc (Nat.le_refl _) _
theorem RelA.write {cx τ F s a w} (h : RelA cx τ F s a w) {id : Nm} {old : List AV} (hl : Has s.heap id (.cells old)) {b : Nat} (hτ : τ id = some (.pointer (some ⟨b, 0, none⟩))) {off : Nat} {cs : List AV}
  (hoff : off + cs.length ≤ old.length) {v : Value} (hsz : v.cells.size = cs.length) (hrep : ∀ (j : Nat) (c : AV), cs[j]? = some c → Rep F w τ c (v.cells.getD j undef)) (hone : cs.all AV.oneB = true) :
  ∃ w', (storeCells ⟨b, off, none⟩ v.cells.toList 0).run cx.P w = .ok () w' ∧ RelA cx τ F { s with heap := setO s.heap id (.cells (old.take off ++ cs ++ old.drop (off + cs.length))) } a w' := by
 obtain ⟨u, h1, b', c, ty, rfl, h3, h4, h5⟩ := h.wr.obj id _ hl
 rw [hτ] at h1; injection h1 with h1; injection h1 with h1; injection h1 with h1; injection h1 with h1; subst h1
 have hall : ∀ x ∈ v.cells.toList, x.oneCell' = true := by
  intro x hx
  obtain ⟨j, hj, rfl⟩ := List.getElem_of_mem hx
  have hj' : j < cs.length := by simpa [hsz] using hj
  have e := hrep j _ (List.getElem?_eq_getElem hj')
  have e2 : v.cells.getD j undef = v.cells.toList[j] := by
   have : j < v.cells.size := by omega
   simp [this]
  rw [e2] at e
  exact oneB_sound e (List.all_eq_true.1 hone _ (List.getElem_mem hj'))
 have hrun := run_storeCells_at cx.P b off ty v.cells.toList 0 c w h3 (by simp [hsz]; omega) hall
 refine ⟨_, hrun, ?_⟩
 simp only [Nat.add_zero, Array.length_toList] at hrun ⊢
 generalize hnew : (c.toList.take off ++ v.cells.toList ++ c.toList.drop (off + v.cells.size)).toArray = c' at hrun ⊢
 have hw' : (w.setRow b c').heap[b]? = some (.cells c' ty (0, 0)) := setRow_heap w b c c' ty _ h3
 have hother : ∀ k, k ≠ b → (w.setRow b c').heap[k]? = w.heap[k]? := fun k hk => by
  simp only [World.setRow, Array.getElem?_modify]; rw [if_neg (fun e => hk e.symm)]
 have hsize : (w.setRow b c').heap.size = w.heap.size := by simp [World.setRow]
 have htl := h.wr.tlt id _ b hτ rfl
 have hFb : ∀ k, F k → k ≠ b := fun k hk e => h.wr.fne k id _ hk hτ (by subst e; rfl)
 have hF : ∀ k, F k → (w.setRow b c').heap[k]? = w.heap[k]? := fun k hk => hother k (hFb k hk)
 have hmono : ∀ x u, Rep F w τ x u → Rep F (w.setRow b c') τ x u := fun x u hr => hr.mono (fun _ h => h) hF (fun _ _ h => h)
 refine ⟨⟨⟨h.wr.keeps.os, h.wr.keeps.tape, h.wr.keeps.output, by rw [hsize]; exact h.wr.keeps.size, fun k hk hx => ?_⟩, fun k hk => by rw [hsize]; exact h.wr.fz k hk, h.wr.fne, h.wr.fsub, h.wr.fsup, fun id v b hv hk => by rw [hsize]; exact h.wr.tlt id v b hv hk, h.wr.inj, fun id' o hl' => ?_, fun id' u hu => ?_, h.wr.old, h.wr.cxn⟩, h.size, h.defers, fun t x ht => ⟨(h.env t x ht).1, hmono _ _ (h.env t x ht).2⟩⟩
 ·rw [hother k (by rintro rfl; rcases htl.1 with h | h; omega; exact hx h)]; exact h.wr.keeps.block k hk hx
 ·rcases (has_set hl rfl rfl (fun _ => by simp only [HO.sel]; rw [selL_true _ _ (by simp; omega)])).1 hl' with ⟨e, e'⟩ | ⟨hne, hl'⟩
  ·subst e e'
   have hc' : c'.size = old.length := by
    subst hnew
    simp [hsz, h4]; omega
   refine ⟨_, hτ, b, c', ty, rfl, hw', by rw [hc']; simp; omega, fun j x hx => hmono _ _ ?_⟩
   subst hnew
   by_cases j1 : j < off
   ·have e1 : (old.take off ++ cs ++ old.drop (off + cs.length))[j]? = old[j]? := by
     rw [List.append_assoc, List.getElem?_append_left (by simp; omega), List.getElem?_take, if_pos j1]
    rw [e1] at hx
    have := h5 j x hx
    have hjc : j < c.size := by have := (List.getElem?_eq_some_iff.1 hx).1; omega
    have e2 : (c.toList.take off ++ v.cells.toList ++ c.toList.drop (off + v.cells.size)).toArray.getD j undef = c.getD j undef := by
     simp only [Array.getD_eq_getD_getElem?, List.getElem?_toArray]
     rw [List.append_assoc, List.getElem?_append_left (by simp; omega), List.getElem?_take, if_pos j1]
     simp
    rw [e2]; exact this
   ·by_cases j2 : j < off + cs.length
    ·have e1 : (old.take off ++ cs ++ old.drop (off + cs.length))[j]? = cs[j - off]? := by
      have hlen : (old.take off).length = off := by simp; omega
      rw [List.append_assoc, List.getElem?_append_right (by omega), List.getElem?_append_left (by omega), hlen]
     rw [e1] at hx
     have := hrep (j - off) x hx
     have e2 : (c.toList.take off ++ v.cells.toList ++ c.toList.drop (off + v.cells.size)).toArray.getD j undef = v.cells.getD (j - off) undef := by
      have hlen : (c.toList.take off).length = off := by simp; omega
      simp only [Array.getD_eq_getD_getElem?, List.getElem?_toArray]
      rw [List.append_assoc, List.getElem?_append_right (by omega), List.getElem?_append_left (by simp [hlen, hsz]; omega), hlen]
      simp
     rw [e2]; exact this
    ·have e1 : (old.take off ++ cs ++ old.drop (off + cs.length))[j]? = old[j]? := by
      have hlen : (old.take off ++ cs).length = off + cs.length := by simp; omega
      rw [List.getElem?_append_right (by omega), hlen, List.getElem?_drop]
      congr 1; omega
     rw [e1] at hx
     have := h5 j x hx
     have e2 : (c.toList.take off ++ v.cells.toList ++ c.toList.drop (off + v.cells.size)).toArray.getD j undef = c.getD j undef := by
      have hlen : (c.toList.take off ++ v.cells.toList).length = off + cs.length := by simp [hsz]; omega
      simp only [Array.getD_eq_getD_getElem?, List.getElem?_toArray]
      rw [List.getElem?_append_right (by omega), hlen, List.getElem?_drop, hsz]
      rw [show off + cs.length + (j - (off + cs.length)) = j by omega]
      simp
     rw [e2]; exact this
  ·obtain ⟨u, q1, q2⟩ := h.wr.obj id' o hl'
   refine ⟨u, q1, q2.mono (fun _ h => h) hF (fun _ _ h => h) fun b' hb' => hother b' ?_⟩
   rintro rfl
   exact hne (h.wr.inj id' id u _ b' q1 hτ hb' rfl)
 ·obtain ⟨o, ho⟩ := h.wr.dom id' u hu
  by_cases e : id' = id
  ·exact ⟨_, (has_set hl rfl rfl (fun _ => by simp only [HO.sel]; rw [selL_true _ _ (by simp; omega)])).2 (.inl ⟨e, rfl⟩)⟩
  ·exact ⟨o, (has_set hl rfl rfl (fun _ => by simp only [HO.sel]; rw [selL_true _ _ (by simp; omega)])).2 (.inr ⟨e, ho⟩)⟩
end Go.Abs
namespace Go.Abs
open Go Go.RowKit
set_option linter.unusedVariables false
theorem look_map {α β : Type} (f : α → β) : ∀ (l : List (Nat × α)) (t : Nat), look (l.map fun x => (x.1, f x.2)) t = (look l t).map f
 | [], t => rfl
 | (k, v) :: r, t => by
  simp only [List.map_cons, look_cons, look_map f r t]
  split <;> rfl
theorem look_filter {α : Type} (id : Nat) : ∀ (l : List (Nat × α)) (t : Nat), look (l.filter fun x => !Nat.beq x.1 id) t = if t = id then none else look l t
 | [], t => by simp [look]
 | (k, v) :: r, t => by
  by_cases hk : k = id
  ·subst hk
   have : (!Nat.beq k k) = false := by simp
   rw [List.filter_cons]
   simp only [this, Bool.false_eq_true, if_false, look_filter k r t, look_cons]
   split
   ·rfl
   ·rfl
  ·have : (!Nat.beq k id) = true := by
    cases e : Nat.beq k id with
    | false => rfl
    | true => exact absurd (Nat.eq_of_beq_eq_true e) hk
   rw [List.filter_cons]
   simp only [this, if_true, look_cons, look_filter id r t]
   by_cases ht : t = k
   ·subst ht; simp [hk]
   ·simp [ht]
theorem keep_rep {F : Nat → Prop} {w : World} {τ τ' : Nm → Option Value} {p : Nm → Bool} (hτ : ∀ id, p id = true → τ' id = τ id) {x : AV} {v : Value} (h : Rep F w τ x v) : Rep F w τ' (x.keep p) v := by
 unfold AV.keep
 cases e : AV.refsB p x with
 | true => exact h.refs (p := fun k => p k = true) hτ (refsP_of (fun _ h => h) e)
 | false => exact .any _ _
theorem keep_hok {F : Nat → Prop} {w : World} {τ τ' : Nm → Option Value} {p : Nm → Bool} (hτ : ∀ id, p id = true → τ' id = τ id) {o : HO} {v : Value} (h : HOk F w τ o v) : HOk F w τ' (o.keep p) v := by
 cases o with
 | cells cs =>
  obtain ⟨b, c, ty, rfl, r1, r2, r3⟩ := h
  refine ⟨b, c, ty, rfl, r1, by simpa using r2, fun j x hx => ?_⟩
  rw [List.getElem?_map] at hx
  cases hc : cs[j]? with
  | none => rw [hc] at hx; cases hx
  | some y =>
   rw [hc] at hx; injection hx with hx; subst hx
   exact keep_rep hτ (r3 j y hc)
 | row e esz n row => exact h
 | rows e esz n row =>
  obtain ⟨xs, r1, r2, r3⟩ := h
  refine ⟨xs, r1, fun i hi => by simpa using r2 i hi, fun i j x hi hx => ?_⟩
  rw [List.getElem?_map] at hx
  cases hc : (row i)[j]? with
  | none => rw [hc] at hx; cases hx
  | some y =>
   rw [hc] at hx; injection hx with hx; subst hx
   exact keep_rep hτ (r3 i j y hi hc)
 | fam D f => exact h.elim
theorem keep_at (p : Nm → Bool) (o : HO) (ix : List Nat) : (o.keep p).at_ ix = (o.at_ ix).map (HO.keep p) := by
 cases o <;> cases ix <;> rfl
theorem keep_in (p : Nm → Bool) (o : HO) (ix : List Nat) : (o.keep p).in_ ix ↔ o.in_ ix := by
 cases o <;> exact Iff.rfl
theorem has_drop {s : St} {id : Nat} {nm : Nm} {y : HO} : Has (s.drop id).heap nm y ↔ nm.id ≠ id ∧ ∃ y0, Has s.heap nm y0 ∧ y = y0.keep (notId id) := by
 unfold Has
 simp only [St.drop]
 rw [look_map (fun o : HO => o.keep (notId id)), look_filter]
 by_cases e : nm.id = id
 ·simp [e]
 ·simp only [e, if_false, ne_eq, not_false_eq_true, true_and]
  constructor
  ·rintro ⟨x, h1, h2, h3⟩
   obtain ⟨x0, g1, rfl⟩ := Option.map_eq_some_iff.1 h1
   rw [keep_at] at h2
   obtain ⟨y0, g2, rfl⟩ := Option.map_eq_some_iff.1 h2
   exact ⟨y0, ⟨x0, g1, g2, (keep_in _ _ _).1 h3⟩, rfl⟩
  ·rintro ⟨y0, ⟨x0, h1, h2, h3⟩, rfl⟩
   exact ⟨_, by rw [h1]; rfl, by rw [keep_at, h2]; rfl, (keep_in _ _ _).2 h3⟩
def without (τ : Nm → Option Value) (id : Nat) : Nm → Option Value := fun k => if k.id = id then none else τ k
theorem notId_ne {id : Nat} {k : Nm} (h : notId id k = true) : k.id ≠ id := by
 unfold notId at h; intro e; rw [e] at h; simp at h
theorem RelA.drop {cx τ F s a w} (h : RelA cx τ F s a w) (id : Nat) : RelA cx (without τ id) F (s.drop id) a w := by
 have h1 : ∀ k, notId id k = true → without τ id k = τ k := fun k hk => by
  unfold without; rw [if_neg (notId_ne hk)]
 have h2 : ∀ k v, without τ id k = some v → k.id ≠ id ∧ τ k = some v := fun k v hv => by
  unfold without at hv
  split at hv
  ·cases hv
  ·rename_i e; exact ⟨e, hv⟩
 refine ⟨⟨h.wr.keeps, h.wr.fz, fun k i v hk hv => h.wr.fne k i v hk (h2 i v hv).2, h.wr.fsub, h.wr.fsup, fun i v b hv => h.wr.tlt i v b (h2 i v hv).2, fun i i' v v' b hv hv' => h.wr.inj i i' v v' b (h2 i v hv).2 (h2 i' v' hv').2, fun i o hl => ?_, fun i v hv => ?_, fun i v ho hv => h.wr.old i v ho (h2 i v hv).2, h.wr.cxn⟩, h.size, h.defers, fun t x ht => ?_⟩
 ·obtain ⟨hne, y0, hy, rfl⟩ := has_drop.1 hl
  obtain ⟨v, q1, q2⟩ := h.wr.obj i y0 hy
  exact ⟨v, by unfold without; rw [if_neg hne]; exact q1, keep_hok h1 q2⟩
 ·obtain ⟨hne, hv⟩ := h2 i v hv
  obtain ⟨o, ho⟩ := h.wr.dom i v hv
  exact ⟨_, has_drop.2 ⟨hne, o, ho, rfl⟩⟩
 ·simp only [St.drop] at ht
  rw [look_map (fun x : AV => x.keep (notId id))] at ht
  cases hx : look s.env t with
  | none => rw [hx] at ht; cases ht
  | some y =>
   rw [hx] at ht; injection ht with ht; subst ht
   exact ⟨(h.env t y hx).1, keep_rep h1 (h.env t y hx).2⟩
theorem RelA.change {cx τ F s a w w'} (h : RelA cx τ F s a w) {row : Option Nat} (hg : w.grownBy w' row) (hr : ∀ k, row = some k → (cx.w.heap.size ≤ k ∨ cx.X k) ∧ (¬ F k) ∧ ∀ id v, τ id = some v → hblk v ≠ some k) : RelA cx τ F s a w' := by
 have hw : ∀ k, F k → w'.heap[k]? = w.heap[k]? := fun k hk => hg.block k (h.wr.fz k hk) (fun e => (hr k e.symm).2.1 hk)
 refine ⟨⟨⟨hg.os.trans h.wr.keeps.os, hg.tape.trans h.wr.keeps.tape, hg.output.trans h.wr.keeps.output, Nat.le_trans h.wr.keeps.size hg.size, fun k hk hx => ?_⟩, fun k hk => Nat.lt_of_lt_of_le (h.wr.fz k hk) hg.size, h.wr.fne, h.wr.fsub, h.wr.fsup, fun id v b hv hk => ⟨(h.wr.tlt id v b hv hk).1, Nat.lt_of_lt_of_le (h.wr.tlt id v b hv hk).2 hg.size⟩, h.wr.inj, fun id o hl => ?_, h.wr.dom, h.wr.old, h.wr.cxn⟩, h.size, h.defers, fun t x ht => ⟨(h.env t x ht).1, (h.env t x ht).2.mono (fun _ h => h) hw (fun _ _ h => h)⟩⟩
 ·rw [hg.block k (Nat.lt_of_lt_of_le hk h.wr.keeps.size) (fun e => by
   rcases (hr k e.symm).1 with h' | h'
   ·omega
   ·exact hx h')]
  exact h.wr.keeps.block k hk hx
 ·obtain ⟨v, h1, h2⟩ := h.wr.obj id o hl
  exact ⟨v, h1, h2.mono (fun _ h => h) hw (fun _ _ h => h) fun b hv => hg.block b (h.wr.tlt id v b h1 hv).2 (fun e => (hr b e.symm).2.2 id v h1 hv)⟩
theorem RelA.add {cx τ F s a w} (h : RelA cx τ F s a w) {d : Nat} (hd : d < cx.n) (hf : look s.heap d = none) {o : HO} (hfl : o.flat = true) {x : AV} {v u : Value}
  (hk : ∀ b, hblk v = some b → ((cx.w.heap.size ≤ b ∨ cx.X b) ∧ b < w.heap.size) ∧ (¬ F b) ∧ ∀ id u, τ id = some u → hblk u ≠ some b)
  (ho : ∀ τ', (∀ id u, τ id = some u → τ' id = some u) → τ' ⟨d, []⟩ = some v → HOk F w τ' o v ∧ Rep F w τ' x u) : Rel cx (s.new d x o) (a.put (some d) u) w := by
 have hnone : τ ⟨d, []⟩ = none := by
  cases e : τ ⟨d, []⟩ with
  | none => rfl
  | some v' => obtain ⟨o', ho'⟩ := h.wr.dom ⟨d, []⟩ v' e; have := ho'.isSome; rw [hf] at this; cases this
 let τ' : Nm → Option Value := fun id => if id.id = d ∧ id.ix = [] then some v else τ id
 have hτ : ∀ id u, τ id = some u → τ' id = some u := fun id u hu => by
  show (if id.id = d ∧ id.ix = [] then some v else τ id) = some u
  rw [if_neg (by rintro ⟨e1, e2⟩; obtain ⟨id, ix⟩ := id; simp only at e1 e2; subst e1 e2; rw [hnone] at hu; cases hu)]; exact hu
 have hτd : τ' ⟨d, []⟩ = some v := if_pos ⟨rfl, rfl⟩
 have hinv : ∀ id u, τ' id = some u → (id = ⟨d, []⟩ ∧ u = v) ∨ (id ≠ ⟨d, []⟩ ∧ τ id = some u) := fun id u hu => by
  have hu' : (if id.id = d ∧ id.ix = [] then some v else τ id) = some u := hu
  split at hu'
  ·rename_i e; injection hu' with hu'; exact .inl ⟨by obtain ⟨id, ix⟩ := id; obtain ⟨e1, e2⟩ := e; simp only at e1 e2; rw [e1, e2], hu'.symm⟩
  ·rename_i e; exact .inr ⟨fun h => e (by rw [h]; exact ⟨rfl, rfl⟩), hu'⟩
 obtain ⟨ho1, ho2⟩ := ho τ' hτ hτd
 refine ⟨τ', F, ⟨h.wr.keeps, h.wr.fz, fun k id u hFk hu => ?_, h.wr.fsub, h.wr.fsup, fun id u b hu hbk => ?_, fun id id' u u' b hu hu' hb1 hb2 => ?_, fun id o' hl => ?_, fun id u hu => ?_, fun id u ho hu => ?_, h.wr.cxn⟩, by simp [Act.put, h.size], by simp [Act.put, h.defers], fun t y ht => ?_⟩
 ·rcases hinv id u hu with ⟨_, rfl⟩ | ⟨_, hu⟩
  ·intro e; exact (hk k e).2.1 hFk
  ·exact h.wr.fne k id u hFk hu
 ·rcases hinv id u hu with ⟨_, rfl⟩ | ⟨_, hu2⟩
  ·exact (hk b hbk).1
  ·exact h.wr.tlt id u b hu2 hbk
 ·rcases hinv id u hu with ⟨e1, e2⟩ | ⟨_, k1⟩ <;> rcases hinv id' u' hu' with ⟨e3, e4⟩ | ⟨_, k2⟩
  ·rw [e1, e3]
  ·subst e2; exact absurd hb2 ((hk b hb1).2.2 id' u' k2)
  ·subst e4; exact absurd hb1 ((hk b hb2).2.2 id u k1)
  ·exact h.wr.inj id id' u u' b k1 k2 hb1 hb2
 ·simp only [St.new] at hl
  rcases (has_cons hfl).1 hl with ⟨rfl, rfl⟩ | ⟨hne, hl⟩
  ·exact ⟨v, hτd, ho1⟩
  ·obtain ⟨u, h1, h2⟩ := h.wr.obj id o' hl
   exact ⟨u, hτ id u h1, h2.mono (fun _ h => h) (fun _ _ => rfl) hτ fun _ _ => rfl⟩
 ·simp only [St.new, has_cons hfl]
  rcases hinv id u hu with ⟨rfl, _⟩ | ⟨hne, hu⟩
  ·exact ⟨o, .inl ⟨rfl, rfl⟩⟩
  ·obtain ⟨o', ho'⟩ := h.wr.dom id u hu
   refine ⟨o', .inr ⟨fun e => ?_, ho'⟩⟩
   have := ho'.isSome; rw [e, hf] at this; cases this
 ·rcases hinv id u hu with ⟨rfl, _⟩ | ⟨_, hu⟩
  ·have := h.wr.cxn; simp only at ho; omega
  ·exact h.wr.old id u ho hu
 ·simp only [St.new] at ht
  rw [look_cons] at ht
  split at ht
  ·rename_i e; subst e; injection ht with ht; subst ht
   refine ⟨hd, ?_⟩
   have : (a.tmps.setIfInBounds t u).getD t undef = u := by
    have ht : t < a.tmps.size := by rw [h.size]; exact hd
    simp [ht]
   simp only [Act.put]; rw [this]; exact ho2
  ·obtain ⟨h1, h2⟩ := h.env t y ht
   refine ⟨h1, ?_⟩
   have : (a.tmps.setIfInBounds d u).getD t undef = a.tmps.getD t undef := by
    simp only [Array.getD_eq_getD_getElem?]
    rw [Array.getElem?_setIfInBounds_ne (by omega)]
   simp only [Act.put]; rw [this]; exact h2.mono (fun _ h => h) (fun _ _ => rfl) hτ
theorem own_sl {F : Nat → Prop} {w : World} {τ : Nm → Option Value} {e esz n : Nat} {d : Nm} {v : Value} {xs : List Value} (h : w.ownsRow 0 e esz v n xs) (hτ : τ d = some v) : Rep F w τ (.sl d n) v := by
 rcases h.2 with ⟨rfl, rfl⟩ | ⟨g, cap, cur, rfl, _, hg, hnc, hcm, hcs, htk⟩
 ·exact .sl _ d 0 none 0 0 hτ (Nat.le_refl _) (Nat.le_refl _) (fun h => absurd h (by simp))
 ·exact .sl _ d n _ n cap hτ (Nat.le_refl _) hnc (fun _ => ⟨g, rfl⟩)
theorem own_hblk {w : World} {e esz n : Nat} {v : Value} {xs : List Value} (h : w.ownsRow 0 e esz v n xs) : hblk v = v.ownBlock := by
 rcases h.2 with ⟨rfl, rfl⟩ | ⟨g, cap, cur, rfl, _⟩ <;> rfl
theorem own_lt {w : World} {e esz n b : Nat} {v : Value} {xs : List Value} (h : w.ownsRow 0 e esz v n xs) (hb : hblk v = some b) : b < w.heap.size := by
 rcases h.2 with ⟨rfl, rfl⟩ | ⟨g, cap, cur, rfl, _, hg, _⟩
 ·cases hb
 ·simp only [hblk, Option.some.injEq] at hb
  subst hb
  rcases Nat.lt_or_ge g w.heap.size with h | h
  ·exact h
  ·rw [Array.getElem?_eq_none h] at hg; cases hg
theorem own_form {w : World} {e esz n m c : Nat} {A : Option Addr} {xs : List Value} (h : w.ownsRow 0 e esz (.slice A m c) n xs) : m = n := by
 rcases h.2 with ⟨h', h0⟩ | ⟨g, cap, cur, hv, _⟩
 ·simp only [Value.slice.injEq] at h'; omega
 ·simp only [Value.slice.injEq] at hv; exact hv.2.1
end Go.Abs
namespace Go.Abs
open Go Go.RowKit
set_option linter.unusedVariables false
theorem partsV_sound {s : St} {esz : Nat} : ∀ {ps : List (Nat × Operand)} {k : Nat} {K : List (List AV) → Prop}, partsV s esz k ps K →
  ∃ rows, K rows ∧ rows.length = ps.length ∧ ∀ F τ w n (a : Act), EnvR F τ w n s.env a.tmps → ∃ vs : List Value, vs.length = ps.length ∧ (ps.map fun x => (x.1, a.eval x.2)) = (vs.zipIdx k).map (fun x => (x.2, x.1)) ∧
   (∀ v ∈ vs, v.cells.size = esz) ∧ ∀ (i : Nat) (v : Value), vs[i]? = some v → (rows.getD i []).length = esz ∧ ∀ (j : Nat) (x : AV), (rows.getD i [])[j]? = some x → Rep F w τ x (v.cells.getD j undef)
 | [], k, K, h => ⟨[], h, rfl, fun F τ w n a he => ⟨[], rfl, rfl, by simp, fun i v hv => by simp at hv⟩⟩
 | (i, x) :: r, k, K, h => by
  obtain ⟨hk, h⟩ := chk_spec h
  have hk := Nat.eq_of_beq_eq_true hk
  subst hk
  obtain ⟨xv, h, hx⟩ := aget_sound h
  obtain ⟨cs, h, hc⟩ := cellsV_sound h
  obtain ⟨hl, h⟩ := chk_spec h
  have hl := Nat.eq_of_beq_eq_true hl
  obtain ⟨rows, hK, hrl, hr⟩ := partsV_sound h
  refine ⟨cs :: rows, hK, by simp [hrl], fun F τ w n a he => ?_⟩
  obtain ⟨vs, h1, h2, h3, h4⟩ := hr F τ w n a he
  obtain ⟨q1, q2⟩ := hc F w τ _ (hx F τ w n a rfl he)
  refine ⟨a.eval x :: vs, by simp [h1], ?_, fun v hv => ?_, fun j v hv => ?_⟩
  ·rw [List.map_cons, h2]; rfl
  ·rcases List.mem_cons.1 hv with rfl | hv
   ·rw [q1, hl]
   ·exact h3 v hv
  ·cases j with
   | zero =>
    simp at hv; subst hv
    exact ⟨by simpa using hl, fun j x hx => q2 j x (by simpa using hx)⟩
   | succ j => simpa using h4 j v (by simpa using hv)
theorem build_new {cx τ F s a w} (h : RelA cx τ F s a w) {d : Nat} (hd : d < cx.n) (hf : look s.heap d = none) {e esz n by_ t : Nat} (hok : (TI.slice e esz by_).okB cx.P t = true) {zs : List Value} (hz : zeroCells cx.P e = some zs) {parts : Array (Nat × Operand)}
  (hn : parts.toList.length = n) (hsm : n * esz ≤ 16777216) {rows : List (List AV)} {vs : List Value} (hvl : vs.length = parts.toList.length) (hps : (parts.toList.map fun x => (x.1, a.eval x.2)) = (vs.zipIdx 0).map (fun x => (x.2, x.1)))
  (hsz : ∀ v ∈ vs, v.cells.size = esz) (hrep : ∀ (i : Nat) (v : Value), vs[i]? = some v → (rows.getD i []).length = esz ∧ ∀ (j : Nat) (x : AV), (rows.getD i [])[j]? = some x → Rep F w τ x (v.cells.getD j undef)) (r : Bool) (hrp : r = false → ∀ i, AV.pureL (rows.getD i []) = true) :
  ∃ v w', (Instr.buildSlice t n (parts.map fun (i, x) => (i, a.eval x))).run cx.P w = .ok v w' ∧ Rel cx (s.new d (.sl ⟨d, []⟩ n) (HO.mk r e esz n fun i => rows.getD i [])) (a.put (some d) v) w' := by
 obtain ⟨fi, hu, hi, hsz', hpos', hby⟩ := ok_slice hok
 obtain ⟨i', z, hi', hzz, _⟩ := zero_info hz
 rw [hi] at hi'; injection hi' with hi'; subst hi'
 have hesz : 0 < esz := hpos'
 have hvn : vs.length = n := by omega
 have hfill : Instr.fill (fun i => some (i * fi.size, fi.size)) ((Array.range (n * fi.size)).map (z.cells[· % z.cells.size]!)) (parts.map fun (i, x) => (i, a.eval x)).toList = some (vs.flatMap fun v => v.cells.toList).toArray := by
  rw [Array.toList_map, hps, hsz']
  exact Great.fill_whole hesz vs _ hsz (by simp [hvn])
 have hrun : (Instr.buildSlice t n (parts.map fun (i, x) => (i, a.eval x))).run cx.P w = .ok (.slice (some ⟨w.heap.size, 0, none⟩) n n) (w.alloc (.cells (vs.flatMap fun v => v.cells.toList).toArray e)) := by
  rcases Nat.eq_zero_or_pos (n * esz) with h0 | hpos
  ·have hn0 : n = 0 := by
    rcases Nat.mul_eq_zero.1 h0 with h | h
    ·exact h
    ·omega
   subst hn0
   have hv0 : vs = [] := List.eq_nil_of_length_eq_zero hvn
   subst hv0
   have hp0 : parts = #[] := Array.eq_empty_of_size_eq_zero (by simpa using hn)
   subst hp0
   simp [Instr.buildSlice, run_underlying hu, sizeOf_run hi, Instr.fill, newRow]
   exact congrArg (fun c => w.alloc (Obj.cells c e)) (Array.eq_empty_of_size_eq_zero (by simp))
  ·exact run_buildSlice (P := cx.P) w t e n _ _ fi z hu hi hzz (by rw [hsz']; omega) (by rw [hsz']; omega) hfill
 refine ⟨_, _, hrun, ?_⟩
 have hcs : ((vs.flatMap fun v => v.cells.toList).toArray).size = n * esz := by
  have : ∀ vs : List Value, (∀ v ∈ vs, v.cells.size = esz) → (vs.flatMap fun v => v.cells.toList).length = vs.length * esz := by
   intro vs
   induction vs with
   | nil => intro _; simp
   | cons v r ih => intro h; rw [List.flatMap_cons, List.length_append, ih (fun x hx => h x (List.mem_cons_of_mem _ hx))]; simp [h v (List.mem_cons_self ..), Nat.add_mul]; omega
  simp [this vs hsz, hvn]
 have hown : (w.alloc (.cells (vs.flatMap fun v => v.cells.toList).toArray e)).ownsRow 0 e esz (.slice (some ⟨w.heap.size, 0, none⟩) n n) n (vs.flatMap fun v => v.cells.toList) := by
  have hnm : n ≤ maxLen := by
   have : n ≤ n * esz := Nat.le_mul_of_pos_right _ hesz
   unfold maxLen; omega
  have := World.ownsRow_lit (base := 0) (e := e) (size := esz) w (vs.flatMap fun v => v.cells.toList).toArray n (Nat.zero_le _) hnm hcs
  simpa using this
 have hb := below_alloc w (.cells (vs.flatMap fun v => v.cells.toList).toArray e)
 refine h.new hd hf (HO.mk_flat _ _ _ _ _) (v := .slice (some ⟨w.heap.size, 0, none⟩) n n) hb (fun b hb => ?_) (fun τ' hτ hτd => ⟨hok_mk.2 ⟨_, hown, fun i hi => ?_, fun i j x hi hx => ?_⟩, own_sl hown hτd⟩)
 ·simp only [hblk, Option.some.injEq] at hb; subst hb; simp
 ·exact (hrep i _ (List.getElem?_eq_getElem (by omega))).1
 ·obtain ⟨r1, r2⟩ := hrep i _ (List.getElem?_eq_getElem (show i < vs.length by omega))
  have hj0 : j < (rows.getD i []).length := (List.getElem?_eq_some_iff.1 hx).1
  have hj : j < esz := by omega
  have hg := Great.flat_get hesz vs hsz (i * esz + j)
  have e1 : (i * esz + j) / esz = i := by
   rw [Nat.mul_comm, Nat.mul_add_div hesz, Nat.div_eq_of_lt hj]; simp
  have e2 : (i * esz + j) % esz = j := by
   rw [Nat.mul_comm, Nat.mul_add_mod, Nat.mod_eq_of_lt hj]
  rw [e1, e2, List.getElem?_eq_getElem (show i < vs.length by omega), Option.bind_some] at hg
  have e3 : (vs.flatMap fun v => v.cells.toList).getD (i * esz + j) undef = (vs[i]'(by omega)).cells.getD j undef := by
   rw [List.getD_eq_getElem?_getD, hg, Array.getD_eq_getD_getElem?]
  rw [e3]
  have r3 := (r2 j x hx).mono (τ' := τ') (fun _ h => h) (fun k hk => hb.block k (h.wr.fz k hk)) hτ
  cases r with
  | true => exact r3
  | false => exact r3.pure (pureL_at (hrp rfl i) j x hx)
theorem make_new {cx τ F s a w} (h : RelA cx τ F s a w) {d : Nat} (hd : d < cx.n) (hf : look s.heap d = none) {e esz by_ t : Nat} (hok : (TI.slice e esz by_).okB cx.P t = true) {zs : List Value} (hz : zeroCells cx.P e = some zs) (hzl : zs.length = esz) (hby0 : 0 < by_)
  {kl kc : IntKind} {n : Nat} (hn : by_ * n ≤ 281474976710656) :
  ∃ v w', (Instr.makeSlice t (.int kl (n : Int)) (.int kc (n : Int))).run cx.P w = .ok v w' ∧ Rel cx (s.new d (.sl ⟨d, []⟩ n) (.row e esz n fun _ => zs.map .val)) (a.put (some d) v) w' := by
 obtain ⟨fi, hu, hi, hsz', hpos', hby⟩ := ok_slice hok
 obtain ⟨i', z, hi', hzz, hzc⟩ := zero_info hz
 rw [hi] at hi'; injection hi' with hi'; subst hi'
 have hnm : n ≤ maxLen := by
  have : n ≤ by_ * n := Nat.le_mul_of_pos_left _ hby0
  unfold maxLen; omega
 obtain ⟨w', hrun, hown, hg⟩ := run_make_full (P := cx.P) w 0 t e fi z esz hu hi hzz hsz' kl kc n (by rw [hby]; exact hn) hnm (Nat.zero_le _)
 refine ⟨_, _, hrun, ?_⟩
 have hb : Below w.heap.size w w' := ⟨hg.os, hg.tape, hg.output, hg.size, fun k hk => hg.block k hk (by simp)⟩
 refine h.new hd hf rfl (v := .slice (some ⟨w.heap.size, 0, none⟩) n n) hb (fun b hbk => ?_) (fun τ' hτ hτd => ⟨⟨_, hown, fun i hi => by simpa using hzl, fun i j x hi hx => ?_⟩, own_sl hown hτd⟩)
 ·have := own_lt hown hbk
  simp only [hblk, Option.some.injEq] at hbk; subst hbk; exact ⟨Nat.le_refl _, this⟩
 ·rw [List.getElem?_map] at hx
  cases hv : zs[j]? with
  | none => rw [hv] at hx; cases hx
  | some v =>
   rw [hv] at hx; injection hx with hx; subst hx
   have hj : j < esz := by have := (List.getElem?_eq_some_iff.1 hv).1; omega
   have hzs : z.cells.size = esz := by rw [← hzl, ← hzc]; simp
   have hlt : i * esz + j < n * esz := by
    have : (i + 1) * esz ≤ n * esz := Nat.mul_le_mul_right _ hi
    rw [Nat.add_mul, Nat.one_mul] at this; omega
   have e2 : (i * esz + j) % esz = j := by
    rw [Nat.mul_comm, Nat.mul_add_mod, Nat.mod_eq_of_lt hj]
   have e3 : (madeCells z.cells (n * esz)).toList.getD (i * esz + j) undef = v := by
    have hv' : z.cells[j]? = some v := by rw [← hv, ← hzc]; simp
    have hjz : j < z.cells.size := by omega
    simp only [madeCells, hzs]
    rw [List.getD_eq_getElem?_getD, Array.getElem?_toList, Array.getElem?_map, Array.getElem?_range]
    simp only [hlt, if_true, Option.map_some, Option.getD_some, e2]
    rw [getElem!_pos z.cells j hjz]
    have := Array.getElem?_eq_getElem hjz
    rw [this] at hv'; injection hv'
   rw [e3]; exact .val _ _
def SrcAt (F : Nat → Prop) (w : World) (τs : Nm → Option Value) (esz m : Nat) (row : Nat → List AV) (v : Value) : Prop :=
 ∃ A c, v = .slice A m c ∧ (∀ i, i < m → (row i).length = esz) ∧ ∃ f : Nat → Nat → Value, (0 < m → ∃ b o, A = some ⟨b, o, none⟩ ∧ ∀ i j, i < m → j < esz → w.cell? ⟨b, o + i * esz + j, none⟩ = some (f i j)) ∧
  ∀ i j x, i < m → (row i)[j]? = some x → Rep F w τs x (f i j)
theorem srcV_sound {s : St} {e esz : Nat} {y : AV} {K : Bool → Nat → (Nat → List AV) → Prop} (h : srcV s e esz y K) :
  ∃ r m row, K r m row ∧ (∀ i, i < m → (row i).all AV.oneB = true) ∧ ∀ cx τ F w v, RelW cx τ F s w → Rep F w τ y v → SrcAt F w (rowτ r τ) esz m row v := by
 unfold srcV at h
 split at h
 ·refine ⟨_, _, _, h, fun i hi => absurd hi (by omega), fun cx τ F w v hw hr => ?_⟩
  cases hr
  exact ⟨_, _, rfl, fun i hi => absurd hi (by omega), fun _ _ => undef, fun h => absurd h (by omega), fun i j x hi => absurd hi (by omega)⟩
 ·rename_i sz m row
  obtain ⟨hz, h1, h2⟩ := chk_spec h
  have hz := Nat.eq_of_beq_eq_true hz
  subst hz
  refine ⟨_, m, row, h2, h1, fun cx τ F w v hw hr => ?_⟩
  cases hr with
  | ro _ _ _ _ A c f p1 p2 p3 p4 p5 =>
   exact ⟨A, c, rfl, p4, f, fun hm => let ⟨b, o, hA, _, hc⟩ := p3 hm; ⟨b, o, hA, hc⟩, p5⟩
 ·rename_i id m
  obtain ⟨o, h, hH⟩ := getO_sound h
  have key : ∀ (r : Bool) (e' esz' n : Nat) (row : Nat → List AV), o = HO.mk r e' esz' n row → esz' = esz → m ≤ n → (∀ i, i < m → (row i).all AV.oneB = true) → ∀ cx τ F w v, RelW cx τ F s w → Rep F w τ (.sl id m) v → SrcAt F w (rowτ r τ) esz m row v := by
   intro r e' esz' n row ho hz hmn h1 cx τ F w v hw hr
   subst hz
   have hl := hH rfl
   rw [ho] at hl
   cases hr with
   | sl _ _ _ A n' c hτ hm' hc hA =>
    obtain ⟨u, q1, q2⟩ := hw.obj id _ hl
    obtain ⟨xs, q2, q3, q4⟩ := hok_mk.1 q2
    rw [hτ] at q1; injection q1 with q1; subst q1
    refine ⟨A, c, rfl, fun i hi => q3 i (by omega), fun i j => xs.getD (i * esz' + j) undef, fun hm => ?_, fun i j x hi hx => q4 i j x (by omega) hx⟩
    rcases q2.2 with ⟨h', h0⟩ | ⟨g, cap, cur, hv, _, hg, hnc, hcm, hcs, htk⟩
    ·omega
    ·simp only [Value.slice.injEq] at hv
     obtain ⟨rfl, rfl, rfl⟩ := hv
     refine ⟨g, 0, rfl, fun i j hi hj => ?_⟩
     have hlt : i * esz' + j < n' * esz' := by
      have : (i + 1) * esz' ≤ n' * esz' := Nat.mul_le_mul_right _ (by omega)
      rw [Nat.add_mul, Nat.one_mul] at this; omega
     rw [cell_of_row _ _ _ _ _ _ hg]
     have hx : cur[0 + i * esz' + j]? = xs[i * esz' + j]? := by
      rw [← htk, List.getElem?_take, if_pos hlt]; simp
     rw [hx]
     have : i * esz' + j < xs.length := by rw [q2.1]; exact hlt
     simp [List.getElem?_eq_getElem this]
  split at h
  ·rename_i e' esz' n row
   obtain ⟨hz, ha⟩ := chk_spec h
   obtain ⟨_, hb⟩ := chk_spec ha
   obtain ⟨hmn, h1, h2⟩ := hb
   exact ⟨false, m, row, h2, h1, key false e' esz' n row rfl (Nat.eq_of_beq_eq_true hz) hmn h1⟩
  ·rename_i e' esz' n row
   obtain ⟨hz, ha⟩ := chk_spec h
   obtain ⟨_, hb⟩ := chk_spec ha
   obtain ⟨hmn, h1, h2⟩ := hb
   exact ⟨true, m, row, h2, h1, key true e' esz' n row rfl (Nat.eq_of_beq_eq_true hz) hmn h1⟩
  ·exact h.elim
 ·rename_i id z off m
  obtain ⟨hzz, h⟩ := chk_spec h
  have hzz := Nat.eq_of_beq_eq_true hzz
  obtain ⟨o, h, hH⟩ := getO_sound h
  split at h
  ·rename_i e' esz' n row
   obtain ⟨hz, ha⟩ := chk_spec h
   have hz := Nat.eq_of_beq_eq_true hz
   obtain ⟨_, hb⟩ := chk_spec ha
   obtain ⟨hmn, h1, h2⟩ := hb
   subst hz
   refine ⟨false, m, _, h2, h1, fun cx τ F w v hw hr => ?_⟩
   cases hr with
   | so _ _ _ _ _ A n' c Z hτ hm' hc hA hZ hZ2 =>
    obtain ⟨u, q1, q2⟩ := hw.obj id _ (hH rfl)
    obtain ⟨xs, q2, q3, q4⟩ := q2
    rw [hτ] at q1; injection q1 with q1; subst q1
    have e0 := own_form q2
    subst e0
    rw [hzz] at hZ
    refine ⟨_, _, rfl, fun i hi => q3 _ (by omega), fun i j => xs.getD ((off + i) * esz' + j) undef, fun hm => ?_, fun i j x hi hx => q4 (off + i) j x (by omega) hx⟩
    rcases q2.2 with ⟨h', h0⟩ | ⟨g, cap, cur, hv, _, hg, hnc, hcm, hcs, htk⟩
    ·omega
    ·simp only [Value.slice.injEq] at hv
     obtain ⟨rfl, _, rfl⟩ := hv
     rw [hZ (by omega)]
     refine ⟨g, off * esz', by simp [add_none], fun i j hi hj => ?_⟩
     have hlt : (off + i) * esz' + j < n' * esz' := by
      have : (off + i + 1) * esz' ≤ n' * esz' := Nat.mul_le_mul_right _ (by omega)
      rw [Nat.add_mul, Nat.one_mul] at this; omega
     rw [cell_of_row _ _ _ _ _ _ hg]
     have e1 : off * esz' + i * esz' + j = (off + i) * esz' + j := by rw [Nat.add_mul]
     rw [e1]
     have hx : cur[(off + i) * esz' + j]? = xs[(off + i) * esz' + j]? := by
      rw [← htk, List.getElem?_take, if_pos hlt]; simp
     rw [hx]
     have : (off + i) * esz' + j < xs.length := by rw [q2.1]; exact hlt
     simp [List.getElem?_eq_getElem this]
  ·exact h.elim
 ·exact h.elim
theorem src_news {F : Nat → Prop} {w : World} {τs : Nm → Option Value} {esz m : Nat} {row : Nat → List AV} {v : Value} (hpos : 0 < esz) (h : SrcAt F w τs esz m row v) (hone : ∀ i, i < m → (row i).all AV.oneB = true) :
  ∃ (A : Option Addr) (c : Nat) (news : List Value), v = .slice A m c ∧ news.length = m * esz ∧ (0 < m → ∃ b o, A = some ⟨b, o, none⟩ ∧ ∀ (j : Nat) (u : Value), news[j]? = some u → w.cell? ((⟨b, o, none⟩ : Addr).add j) = some u) ∧ (∀ u ∈ news, u.oneCell' = true) ∧
   ∀ i j x, i < m → (row i)[j]? = some x → Rep F w τs x (news.getD (i * esz + j) undef) := by
 obtain ⟨A, c, rfl, hlen, f, hA, hrep⟩ := h
 have hdm : ∀ k, k < m * esz → k / esz < m ∧ k % esz < esz := fun k hk => ⟨by rw [Nat.div_lt_iff_lt_mul hpos]; exact hk, Nat.mod_lt _ hpos⟩
 refine ⟨A, c, (List.range (m * esz)).map fun k => f (k / esz) (k % esz), rfl, by simp, fun hm => ?_, fun u hu => ?_, fun i j x hi hx => ?_⟩
 ·obtain ⟨b, o, hA', hc⟩ := hA hm
  refine ⟨b, o, hA', fun j u hj => ?_⟩
  rw [List.getElem?_map] at hj
  cases hr : (List.range (m * esz))[j]? with
  | none => rw [hr] at hj; cases hj
  | some k =>
   rw [hr] at hj; injection hj with hj; subst hj
   have hk : j < m * esz := by have := (List.getElem?_eq_some_iff.1 hr).1; simpa using this
   have : k = j := by rw [List.getElem?_range hk] at hr; injection hr with hr; exact hr.symm
   subst this
   rw [add_none]
   have := hc (k / esz) (k % esz) (hdm k hk).1 (hdm k hk).2
   rw [Nat.add_assoc, Nat.mul_comm, Nat.div_add_mod] at this
   exact this
 ·obtain ⟨k, hk, rfl⟩ := List.mem_map.1 hu
  have hk : k < m * esz := by simpa using hk
  have hlt : k % esz < (row (k / esz)).length := by rw [hlen _ (hdm k hk).1]; exact (hdm k hk).2
  exact oneB_sound (hrep _ _ _ (hdm k hk).1 (List.getElem?_eq_getElem hlt)) (List.all_eq_true.1 (hone _ (hdm k hk).1) _ (List.getElem_mem hlt))
 ·have hj0 : j < (row i).length := (List.getElem?_eq_some_iff.1 hx).1
  have hj : j < esz := by rw [hlen i hi] at hj0; exact hj0
  have hlt : i * esz + j < m * esz := by
   have : (i + 1) * esz ≤ m * esz := Nat.mul_le_mul_right _ hi
   rw [Nat.add_mul, Nat.one_mul] at this; omega
  have e1 : (i * esz + j) / esz = i := by
   rw [Nat.mul_comm, Nat.mul_add_div hpos, Nat.div_eq_of_lt hj]; simp
  have e2 : (i * esz + j) % esz = j := by
   rw [Nat.mul_comm, Nat.mul_add_mod, Nat.mod_eq_of_lt hj]
  have e3 : ((List.range (m * esz)).map fun k => f (k / esz) (k % esz)).getD (i * esz + j) undef = f i j := by
   rw [List.getD_eq_getElem?_getD, List.getElem?_map, List.getElem?_range hlt]
   simp [e1, e2]
  rw [e3]; exact hrep i j x hi hx
theorem append_run {P : Program} {t e esz by_ ty : Nat} (hok : (TI.slice e esz by_).okB P t = true) {zs : List Value} (hz : zeroCells P e = some zs) (hzl : zs.length = esz) {w : World} {v : Value} {n : Nat} {xs : List Value} (hown : w.ownsRow 0 e esz v n xs)
  {F : Nat → Prop} {τs : Nm → Option Value} {m : Nat} {row : Nat → List AV} {u : Value} (hs : SrcAt F w τs esz m row u) (hone : ∀ i, i < m → (row i).all AV.oneB = true) (hby0 : 0 < by_) (hbytes : (n + m) * by_ ≤ 140737488355328) :
  ∃ (v' : Value) (w' : World) (news : List Value), (Builtin.append_ #[t, t] ty #[v, u]).run P w = .ok v' w' ∧ w'.ownsRow 0 e esz v' (n + m) (xs ++ news) ∧ w.grownBy w' v.ownBlock ∧ (v'.ownBlock = v.ownBlock ∨ v'.ownBlock = some w.heap.size) ∧ news.length = m * esz ∧
   ∀ i j x, i < m → (row i)[j]? = some x → Rep F w τs x (news.getD (i * esz + j) undef) := by
 obtain ⟨fi, hu, hi, hsz', hpos', hby⟩ := ok_slice hok
 obtain ⟨i', z, hi', hzz, hzc⟩ := zero_info hz
 rw [hi] at hi'; injection hi' with hi'; subst hi'
 obtain ⟨A, c, news, rfl, hnl, hA, h1, hrep⟩ := src_news hpos' hs hone
 have hzs : z.cells.size = esz := by rw [← hzl, ← hzc]; simp
 have hnm : n + m ≤ maxLen := by
  have : n + m ≤ (n + m) * by_ := Nat.le_mul_of_pos_right _ hby0
  unfold maxLen; omega
 by_cases hm : m = 0
 ·subst hm
  have hn0 : news = [] := List.eq_nil_of_length_eq_zero (by simpa using hnl)
  subst hn0
  cases A with
  | none =>
   have hr : (Builtin.append_ #[t, t] ty #[v, .slice none 0 c]).run P w = .ok v w := by
    rcases hown.2 with ⟨rfl, rfl⟩ | ⟨g, cap, cur, rfl, _, _, hnc, _⟩
    ·simp [Builtin.append_, run_underlying hu, sizeOf, typeInfo, hi, Builtin.lenOf, Builtin.firstCells]
    ·simp [Builtin.append_, run_underlying hu, sizeOf, typeInfo, hi, Builtin.lenOf, Builtin.firstCells, hnc, storeCells]
   exact ⟨v, w, [], hr, by simpa using hown, ⟨rfl, rfl, rfl, Nat.le_refl _, fun _ _ _ => rfl⟩, .inl rfl, by simp, fun i j x hi => absurd hi (by omega)⟩
  | some ad =>
   obtain ⟨v', w', q1, q2, q3, _, q4⟩ := run_append_own_at (P := P) w 0 t ty e fi z esz by_ hu hi hzz hsz' hby hzs hpos' v n xs hown ad 0 c [] (by simp) (fun j u h => by simp at h) (fun u h => by simp at h) hnm hbytes (Nat.zero_le _)
   exact ⟨v', w', [], q1, q2, q3, q4, by simp, fun i j x hi => absurd hi (by omega)⟩
 ·obtain ⟨b, o, rfl, hc⟩ := hA (by omega)
  obtain ⟨v', w', q1, q2, q3, _, q4⟩ := run_append_own_at (P := P) w 0 t ty e fi z esz by_ hu hi hzz hsz' hby hzs hpos' v n xs hown ⟨b, o, none⟩ m c news hnl hc h1 hnm hbytes (Nat.zero_le _)
  exact ⟨v', w', news, q1, q2, q3, q4, hnl, hrep⟩
end Go.Abs
namespace Go.Abs
open Go Go.RowKit
set_option linter.unusedVariables false
theorem sz_zeroCells (z : Array Value) (n : Nat) : (Builtin.zeroCells z n).size = n * z.size := by simp [Builtin.zeroCells]
theorem append_so {P : Program} {t e esz by_ ty : Nat} (hok : (TI.slice e esz by_).okB P t = true) {zs : List Value} (hz : zeroCells P e = some zs) (hzl : zs.length = esz) {w : World} {A : Option Addr} {c n' : Nat} {xs : List Value} (hown : w.ownsRow 0 e esz (.slice A n' c) n' xs) (hn0 : 0 < n')
  {off n : Nat} (hon : off + n = n') {Z : Option Addr} (hZ : c ≠ off → Z = A.map (·.add (off * esz))) (hZ2 : Z ≠ none) {F : Nat → Prop} {τs : Nm → Option Value} {m : Nat} {row : Nat → List AV} {u : Value} (hs : SrcAt F w τs esz m row u) (hone : ∀ i, i < m → (row i).all AV.oneB = true) (hm : 0 < m) (hby0 : 0 < by_) (hbytes : (n' + m) * by_ ≤ 140737488355328) :
  (∃ (w' : World) (news : List Value), (Builtin.append_ #[t, t] ty #[.slice Z n (c - off), u]).run P w = .ok (.slice Z (n + m) (c - off)) w' ∧ n' + m ≤ c ∧ w'.ownsRow 0 e esz (.slice A (n' + m) c) (n' + m) (xs ++ news) ∧ w.grownBy w' (Value.slice A n' c).ownBlock ∧ news.length = m * esz ∧
   ∀ i j x, i < m → (row i)[j]? = some x → Rep F w τs x (news.getD (i * esz + j) undef)) ∨
  (∃ (v' : Value) (w' : World) (news : List Value), (Builtin.append_ #[t, t] ty #[.slice Z n (c - off), u]).run P w = .ok v' w' ∧ w'.ownsRow 0 e esz v' (n + m) (xs.drop (off * esz) ++ news) ∧ w.grownBy w' (Value.slice A n' c).ownBlock ∧ v'.ownBlock = some w.heap.size ∧ news.length = m * esz ∧
   ∀ i j x, i < m → (row i)[j]? = some x → Rep F w τs x (news.getD (i * esz + j) undef)) := by
 obtain ⟨fi, hu, hi, hsz', hpos', hby⟩ := ok_slice hok
 obtain ⟨i', z, hi', hzz, hzc⟩ := zero_info hz
 rw [hi] at hi'; injection hi' with hi'; subst hi'
 obtain ⟨A2, c2, news, rfl, hnl, hA2, h1, hrep⟩ := src_news hpos' hs hone
 have hzs : z.cells.size = esz := by rw [← hzl, ← hzc]; simp
 have hnm : n' + m ≤ maxLen := by
  have : n' + m ≤ (n' + m) * by_ := Nat.le_mul_of_pos_right _ hby0
  unfold maxLen; omega
 have hnm2 : n + m ≤ maxLen := by omega
 obtain ⟨b, o, rfl, hc2⟩ := hA2 hm
 rcases hown.2 with ⟨h', h0⟩ | ⟨g, cap, cur, hv, hbg, hg, hnc, hcm, hcs, htake⟩
 ·omega
 simp only [Value.slice.injEq] at hv
 obtain ⟨rfl, _, rfl⟩ := hv
 subst hsz'
 have hlen0 : xs.length = n' * fi.size := hown.1
 have hol : (xs.drop (off * fi.size)).length = n * fi.size := by
  rw [List.length_drop, hlen0, ← hon, Nat.add_mul]; omega
 by_cases hroom : n' + m ≤ c
 ·left
  have hne : ¬ c = off := by omega
  have hZ := hZ hne
  subst hZ
  have hfit : n' * fi.size + news.length ≤ cur.size := by rw [hnl, hcs, ← Nat.add_mul]; exact Nat.mul_le_mul_right _ hroom
  have hf := run_firstCells_some (P := P) w fi.size m ⟨b, o, none⟩ m c2 news hnl hc2
  have hst := run_storeCells_at P g (n' * fi.size) e news 0 cur w hg (by simpa using hfit) h1
  simp only [Nat.add_zero] at hst
  have hroom2 : n + m ≤ c - off := by omega
  have hadd : ((⟨g, 0, none⟩ : Addr).add (off * fi.size)).add (n * fi.size) = ⟨g, n' * fi.size, none⟩ := by
   rw [add_none, add_none, ← hon, Nat.add_mul]; simp
  refine ⟨w.setRow g (cur.toList.take (n' * fi.size) ++ news ++ cur.toList.drop (n' * fi.size + news.length)).toArray, news, ?_, hroom, ⟨by rw [List.length_append, hlen0, hnl, Nat.add_mul], .inr ⟨g, c, _, rfl, hbg, setRow_heap w g cur _ e _ hg, hroom, hcm, ?_, ?_⟩⟩, ⟨rfl, rfl, rfl, by simp, fun k _ hk => setRow_other w g k _ (fun e => hk (by simp [Value.ownBlock, e]))⟩, hnl, hrep⟩
  ·simp only [Option.map_some]
   simp [Builtin.append_, run_underlying hu, sizeOf, typeInfo, hi, Builtin.lenOf, hroom2, hf, hadd, hst]
  ·simp only [List.size_toArray, List.length_append, List.length_take, List.length_drop, Array.length_toList]
   omega
  ·rw [htake, ← show (xs ++ news).length = (n' + m) * fi.size by rw [List.length_append, hlen0, hnl, Nat.add_mul]]
   exact List.take_left
 ·right
  have hgrow : c - off < n + m := by omega
  obtain ⟨bz, hbz, holds⟩ : ∃ bz, Z = some bz ∧ ∀ j v, (xs.drop (off * fi.size))[j]? = some v → w.cell? (bz.add j) = some v := by
   by_cases e1 : c = off
   ·cases Z with
    | none => exact absurd rfl hZ2
    | some bz =>
     refine ⟨bz, rfl, fun j v hv => ?_⟩
     rw [List.getElem?_drop] at hv
     have hlt : off * fi.size + j < xs.length := (List.getElem?_eq_some_iff.1 hv).1
     rw [hlen0, show n' = off by omega] at hlt; omega
   ·refine ⟨_, hZ e1, fun j v hv => ?_⟩
    rw [List.getElem?_drop] at hv
    have := hown.cells (g := g) rfl (off * fi.size + j) v hv
    show w.cell? (((⟨g, 0, none⟩ : Addr).add (off * fi.size)).add j) = some v
    rw [add_none, add_none]; rw [add_none] at this
    simpa using this
  subst hbz
  have hfits : Builtin.nextslicecap (n + m) (c - off) * fi.bytes ≤ 281474976710656 := growslice_fits (by omega) (by rw [hby]; exact Nat.le_trans (Nat.mul_le_mul_right _ (by omega)) hbytes)
  have hr := run_append_grow (P := P) w t ty e fi z hu hi hzz bz n (c - off) (xs.drop (off * fi.size)) hol holds ⟨b, o, none⟩ m c2 news hnl hc2 hgrow (by unfold maxLen at hnm2; omega) hfits
  have hge := grownCap_ge w (n + m) (c - off) e
  have hcm2 : grownCap w (n + m) (c - off) e ≤ maxLen := grownCap_le_maxLen w (n + m) (c - off) e hnm2
  have hlen2 : (xs.drop (off * fi.size) ++ news).length = (n + m) * fi.size := by rw [List.length_append, hol, hnl, Nat.add_mul]
  refine ⟨_, _, news, hr, ⟨hlen2, .inr ⟨w.heap.size, _, _, rfl, Nat.zero_le _, heap_alloc_new w.drew _, hge, hcm2, ?_, ?_⟩⟩, ⟨rfl, rfl, rfl, by simp, fun k hk _ => Below.heap_alloc w.drew _ k hk⟩, rfl, hnl, hrep⟩
  ·simp only [Array.size_append, List.size_toArray, sz_zeroCells, hzs, hol, hnl, ← Nat.add_mul]
   congr 1
   omega
  ·simp only [Array.toList_append, List.append_assoc]
   rw [← List.append_assoc, ← hlen2]
   exact List.take_left
end Go.Abs
