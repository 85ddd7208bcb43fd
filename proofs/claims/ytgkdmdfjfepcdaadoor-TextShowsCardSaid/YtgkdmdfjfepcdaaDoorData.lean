/- The plain types of package api, how their values lie in memory, and how an argument is opened. No condition. -/
import Derived.Test.YtgkdmdfjfepcdaaDoorAbsd
import Derived.Deep.Slices
import Derived.ChangeArms
import Derived.WideShapes
import Derived.OpenShut
import Derived.SizedLaws
set_option linter.unusedVariables false
set_option linter.unusedSimpArgs false
namespace Go.Abs
open Go Go.RowKit

/-- A slice of old, element by element. -/
@[reducible] def roL {α : Type} [Inhabited α] (sz : Nat) (enc : α → List AV) (l : List α) : AV := .ro sz l.length (fun i => enc (l.getD i default))

structure Opd where
  (Kind Value : Int) (Late : Bool) (Limit N : Int)
deriving DecidableEq, Inhabited
structure Rg where
  (Class N : Int)
deriving DecidableEq, Inhabited
structure Ins where
  Op : Int
  Operands : List Opd
  Spoils : List Rg
deriving DecidableEq, Inhabited
structure Edg where
  Block : Int
  Args : List Int
deriving DecidableEq, Inhabited
structure Blk where
  Params : List Int
  Instrs : List Ins
  Edges : List Edg
deriving DecidableEq, Inhabited
structure Fun where
  Values : List Int
  Blocks : List Blk
deriving DecidableEq, Inhabited
structure Mch where
  (r0 r1 : Int)
deriving DecidableEq, Inhabited

@[reducible] def intC (n : Int) : List AV := [.i64 n]
@[reducible] def ints (l : List Int) : AV := roL 1 intC l
@[reducible] def Opd.cells (o : Opd) : List AV := [.i64 o.Kind, .i64 o.Value, .bool o.Late, .i64 o.Limit, .i64 o.N]
@[reducible] def Opd.av (o : Opd) : AV := .agg o.cells
@[reducible] def Rg.cells (o : Rg) : List AV := [.i64 o.Class, .i64 o.N]
@[reducible] def Rg.av (o : Rg) : AV := .agg o.cells
@[reducible] def Ins.cells (x : Ins) : List AV := [.i64 x.Op, roL 5 Opd.cells x.Operands, roL 2 Rg.cells x.Spoils]
@[reducible] def Ins.av (x : Ins) : AV := .agg x.cells
@[reducible] def Edg.cells (x : Edg) : List AV := [.i64 x.Block, ints x.Args]
@[reducible] def Edg.av (x : Edg) : AV := .agg x.cells
@[reducible] def Blk.cells (b : Blk) : List AV := [ints b.Params, roL 3 Ins.cells b.Instrs, roL 2 Edg.cells b.Edges]
@[reducible] def Blk.av (b : Blk) : AV := .agg b.cells
@[reducible] def Fun.cells (f : Fun) : List AV := [ints f.Values, roL 3 Blk.cells f.Blocks]
@[reducible] def Fun.av (f : Fun) : AV := .agg f.cells
@[reducible] def Mch.cells (m : Mch) : List AV := [.i64 m.r0, .i64 m.r1]
@[reducible] def Mch.av (m : Mch) : AV := .agg m.cells

theorem wrap_in {n : Int} (h0 : -9223372036854775808 ≤ n) (h1 : n ≤ 9223372036854775807) : IntKind.i64.wrap n = n := by
  have e1 : (2 : Int) ^ IntKind.i64.bits = 18446744073709551616 := rfl
  have e2 : (2 : Int) ^ (IntKind.i64.bits - 1) = 9223372036854775808 := rfl
  have e3 : IntKind.i64.signed = true := rfl
  simp only [IntKind.wrap, e1, e2, e3, Bool.true_and, decide_eq_true_eq]
  split <;> omega
theorem wrap_nat {n : Nat} (h : n ≤ maxLen) : IntKind.i64.wrap (n : Int) = (n : Int) := by
  unfold maxLen at h
  exact wrap_in (by omega) (by omega)
theorem wrap_succ {k n : Nat} (h : k < n) (hn : n ≤ maxLen) : IntKind.i64.wrap ((k : Int) + 1) = ((k + 1 : Nat) : Int) := by
  rw [show ((k : Int) + 1) = ((k + 1 : Nat) : Int) by omega]
  exact wrap_nat (by omega)
end Go.Abs

namespace Go.Abs
open Go Go.RowKit Go.Deep Go.ChangeShapes
set_option linter.unusedVariables false

def CellsRep (w : World) (cs : List Value) (avs : List AV) : Prop :=
  cs.length = avs.length ∧ ∀ (j : Nat) (x : AV), avs[j]? = some x → Rep (fun k => k < w.heap.size) w (fun _ => none) x (cs.getD j undef)

/-- Whatever reads as a datum of type 't' is as one of 'S' says. -/
def OpensC (P : Program) (t : TypeId) (S : List AV → Prop) : Prop :=
  ∀ (H : Type) (enc : TypeId × Value → H) (w : World) (spare : Nat → Bool) (held : Bool) (fuel : Nat) (cs : List Value) (x : DataW H × List MemPlace),
    DataW.trod enc P w 0 spare held fuel t cs = some x → (x.1.weights P t).all (· ≤ reachBytes) = true → ∃ avs, S avs ∧ CellsRep w cs avs
/-- A list that came in: its weight, and what is known of its elements. -/
def LOk {α : Type} (by_ : Nat) (p : α → Prop) (l : List α) : Prop := l.length * by_ ≤ 140737488351232 ∧ ∀ a ∈ l, p a

theorem all_mono {l m : List Nat} {p : Nat → Bool} (h : m.all p = true) (hs : ∀ n ∈ l, n ∈ m) : l.all p = true := List.all_eq_true.2 fun n hn => List.all_eq_true.1 h n (hs n hn)
theorem weightsAll_mem {H : Type} {P : Program} {e : TypeId} : ∀ {ds : List (DataW H)} {d : DataW H}, d ∈ ds → ∀ n ∈ d.weights P e, n ∈ DataW.weightsAll P e ds
  | [], _, h, _, _ => by cases h
  | x :: r, d, h, n, hn => by
    unfold DataW.weightsAll
    rcases List.mem_cons.1 h with rfl | h
    · exact List.mem_append_left _ hn
    · exact List.mem_append_right _ (weightsAll_mem h n hn)

theorem opens_int {P : Program} {t : TypeId} (ht : P.underlying t = some (.int .i64)) : OpensC P t fun avs => ∃ n : Int, avs = [.i64 n] ∧ (-9223372036854775808 ≤ n ∧ n ≤ 9223372036854775807) := by
  intro H enc w spare held fuel cs x h hwt
  obtain ⟨n, rfl, _, hw⟩ := DataW.trod_int ht h
  refine ⟨_, ⟨n, rfl, ?_⟩, rfl, fun j x hx => ?_⟩
  · simp [Lit.wf, IntKind.min, IntKind.max, IntKind.signed, IntKind.bits] at hw; omega
  · cases j with
    | zero => simp at hx; subst hx; exact .val _ _
    | succ j => simp at hx

theorem opens_bool {P : Program} {t : TypeId} (ht : P.underlying t = some .bool) : OpensC P t fun avs => ∃ b : Bool, avs = [.bool b] := by
  intro H enc w spare held fuel cs x h hwt
  obtain ⟨n, rfl, _⟩ := DataW.trod_bool ht h
  refine ⟨_, ⟨n, rfl⟩, rfl, fun j x hx => ?_⟩
  cases j with
  | zero => simp at hx; subst hx; exact .val _ _
  | succ j => simp at hx

def SCat : List (List AV → Prop) → List AV → Prop
  | [], avs => avs = []
  | S :: r, avs => ∃ a b, S a ∧ SCat r b ∧ avs = a ++ b

/-- The fields lie one behind the other, from 'off' up to 'tot'. -/
def layB (P : Program) (tot : Nat) : Nat → List Field → Bool
  | off, [] => off == tot
  | off, f :: r => f.offset == off && layB P tot (off + P.cellsOf f.type) r

theorem cells_append {w : World} {cs : List Value} {a b : List AV} {n m : Nat} (hn : n + m = cs.length) (h1 : CellsRep w (cs.take n) a) (h2 : CellsRep w (cs.drop n) b) : CellsRep w cs (a ++ b) := by
  have l1 : n = a.length := by have := h1.1; simp at this; omega
  refine ⟨by have := h2.1; simp at this ⊢; omega, fun j x hx => ?_⟩
  by_cases hj : j < a.length
  · rw [List.getElem?_append_left hj] at hx
    have := h1.2 j x hx
    have e : (cs.take n).getD j undef = cs.getD j undef := by
      simp only [List.getD_eq_getElem?_getD, List.getElem?_take]; rw [if_pos (by omega)]
    rw [e] at this; exact this
  · rw [List.getElem?_append_right (by omega)] at hx
    have := h2.2 (j - a.length) x hx
    have e : (cs.drop n).getD (j - a.length) undef = cs.getD j undef := by
      simp only [List.getD_eq_getElem?_getD, List.getElem?_drop]; rw [show n + (j - a.length) = j by omega]
    rw [e] at this; exact this

theorem fields_cat {P : Program} {H : Type} {enc : TypeId × Value → H} {w : World} {spare : Nat → Bool} {held : Bool} {n : Nat} {cs : List Value} {tot : Nat} (htot : cs.length = tot) :
    ∀ (fs : List Field) (Ss : List (List AV → Prop)) (off : Nat), off ≤ tot → fs.length = Ss.length → layB P tot off fs = true →
      (∀ (i : Nat) (f : Field) (S : List AV → Prop), fs[i]? = some f → Ss[i]? = some S → OpensC P f.type S) →
      (∀ (i : Nat) (f : Field), fs[i]? = some f → ∃ y, DataW.trod enc P w 0 spare held n f.type ((cs.drop f.offset).take (P.cellsOf f.type)) = some y ∧ (y.1.weights P f.type).all (· ≤ reachBytes) = true) →
      ∃ avs, SCat Ss avs ∧ CellsRep w (cs.drop off) avs
  | [], [], off, _, _, hl, _, _ => by
    simp only [layB, beq_iff_eq] at hl
    subst hl
    exact ⟨[], rfl, by simp [htot], fun j x hx => by simp at hx⟩
  | f :: fs, S :: Ss, off, hoff, hlen, hl, hS, ht => by
    simp only [layB, Bool.and_eq_true, beq_iff_eq] at hl
    obtain ⟨hfo, hl⟩ := hl
    obtain ⟨y, hy, hyw⟩ := ht 0 f rfl
    obtain ⟨a, ha, hca⟩ := hS 0 f S rfl rfl H enc w spare held n _ y hy hyw
    have hle : off + P.cellsOf f.type ≤ tot := by
      have : ∀ (fs : List Field) (o : Nat), layB P tot o fs = true → o ≤ tot := by
        intro fs
        induction fs with
        | nil => intro o h; simp only [layB, beq_iff_eq] at h; omega
        | cons g r ih => intro o h; simp only [layB, Bool.and_eq_true] at h; have := ih _ h.2; omega
      exact this _ _ hl
    obtain ⟨b, hb, hcb⟩ := fields_cat htot fs Ss (off + P.cellsOf f.type) hle (by simpa using hlen) hl (fun i f S h1 h2 => hS (i + 1) f S (by simpa using h1) (by simpa using h2)) (fun i f h1 => ht (i + 1) f (by simpa using h1))
    refine ⟨a ++ b, ⟨a, b, ha, hb, rfl⟩, cells_append (n := P.cellsOf f.type) (m := tot - off - P.cellsOf f.type) (by simp; omega) (by rw [hfo] at hca; exact hca) ?_⟩
    rw [List.drop_drop]; exact hcb
  | [], _ :: _, _, _, h, _, _, _ => by simp at h
  | _ :: _, [], _, _, h, _, _, _ => by simp at h

theorem opens_struct {P : Program} {t : TypeId} {fs : Array Field} (ht : P.underlying t = some (.struct fs)) (Ss : List (List AV → Prop)) (hlen : fs.toList.length = Ss.length) (hl : layB P (P.cellsOf t) 0 fs.toList = true)
    (hS : ∀ (i : Nat) (f : Field) (S : List AV → Prop), fs.toList[i]? = some f → Ss[i]? = some S → OpensC P f.type S) : OpensC P t (SCat Ss) := by
  intro H enc w spare held fuel cs x h hwt
  obtain ⟨xs, n, _, hx, hcl, hxl, hf⟩ := DataW.trod_struct ht h
  have hwx : ∀ (i : Nat) (f : Field) (y : DataW H × List MemPlace), fs[i]? = some f → xs[i]? = some y → (y.1.weights P f.type).all (· ≤ reachBytes) = true := fun i f y h1 h2 => by
    rw [hx] at hwt
    simp only [DataW.weights, ht] at hwt
    refine all_mono hwt fun m hm => DataW.weights_mem_each (ts := fs.toList.map (·.type)) (ds := xs.map (·.1)) (j := i) (t := f.type) (d := y.1) ?_ ?_ m hm
    · rw [List.getElem?_map]; simp [h1]
    · rw [List.getElem?_map, h2]; rfl
  obtain ⟨avs, h1, h2⟩ := fields_cat (enc := enc) (w := w) (spare := spare) (held := held) (n := n) hcl fs.toList Ss 0 (Nat.zero_le _) hlen hl hS (fun i f hi => by
    have hi' : fs[i]? = some f := by simpa using hi
    have hlt : i < xs.length := by rw [hxl]; exact (Array.getElem?_eq_some_iff.1 hi').1
    exact ⟨xs[i], by rw [hf i f hi', List.getElem?_eq_getElem hlt], hwx i f _ hi' (List.getElem?_eq_getElem hlt)⟩)
  exact ⟨avs, h1, by simpa using h2⟩

/-- An array of n elements: as a struct of n fields. -/
theorem opens_array2 {P : Program} {t e : TypeId} {S : List AV → Prop} (ht : P.underlying t = some (.array 2 e)) (hc : P.cellsOf t = 2) (he : P.cellsOf e = 1) (hS : OpensC P e S) : OpensC P t (SCat [S, S]) := by
  intro H enc w spare held fuel cs x h hwt
  obtain ⟨xs, m, _, hx, hcl, hxl, hf⟩ := DataW.trod_array ht h
  have hwx : ∀ y ∈ xs, (y.1.weights P e).all (· ≤ reachBytes) = true := fun y hy => by
    rw [hx] at hwt
    simp only [DataW.weights, ht] at hwt
    exact all_mono hwt fun n hn => weightsAll_mem (List.mem_map_of_mem hy) n hn
  rw [he] at hf
  have h0 := hf 0 (by omega)
  have h1 := hf 1 (by omega)
  match xs, hxl with
  | [y0, y1], _ =>
    obtain ⟨a, ha, hca⟩ := hS H enc w spare held m _ y0 (by simpa using h0) (hwx y0 (by simp))
    obtain ⟨b, hb, hcb⟩ := hS H enc w spare held m _ y1 (by simpa using h1) (hwx y1 (by simp))
    have hcl' : cs.length = 2 := by rw [hcl, hc]
    match cs, hcl' with
    | [c0, c1], _ =>
      refine ⟨a ++ b, ⟨a, b, ha, ⟨b, [], hb, rfl, by simp⟩, rfl⟩, cells_append (n := 1) (m := 1) rfl (by simpa using hca) (by simpa using hcb)⟩

theorem opens_slice {P : Program} {t e : TypeId} {α : Type} [Inhabited α] {sz : Nat} {enc' : α → List AV} {p : α → Prop} (ht : P.underlying t = some (.slice e)) (hsz : P.cellsOf e = sz) (hpos : 0 < sz) (hlen : ∀ a, (enc' a).length = sz) {by_ : Nat} (hby : P.bytesOf e = by_)
    (hS : OpensC P e fun avs => ∃ a : α, avs = enc' a ∧ p a) : OpensC P t fun avs => ∃ l : List α, avs = [roL sz enc' l] ∧ LOk by_ p l := by
  intro H enc w spare held fuel cs x h hwt
  rcases open_slice ht h with ⟨rfl, _⟩ | ⟨a, len, cap, m, n, D, Pl, rfl, _, hl, hm, hmm, hxe, hi⟩
  · refine ⟨_, ⟨[], rfl, by simp [LOk]⟩, rfl, fun j x hx => ?_⟩
    cases j with
    | zero =>
      simp at hx; subst hx
      exact .ro _ _ _ _ _ _ (fun _ _ => undef) (Nat.le_refl _) (Nat.zero_le _) (fun h => absurd h (by simp)) (fun i h => absurd h (by simp)) (fun i j x h => absurd h (by simp))
    | succ j => simp at hx
  · rw [hsz] at hi
    have hlm : len ≤ m := by rw [hmm]; split <;> omega
    rw [hxe] at hwt
    simp only [DataW.weights, ht, hby, List.all_cons, Bool.and_eq_true, decide_eq_true_eq, List.length_map, List.length_range] at hwt
    have hlb : len * by_ ≤ 140737488351232 := by
      have h1 := hwt.1
      have h2 : reachBytes = 140737488351232 := rfl
      have h3 : len * by_ ≤ (len + (m - len)) * by_ := Nat.mul_le_mul_right _ (by omega)
      omega
    have hc : ∀ i, i < len → ∃ (y : α × List Value), p y.1 ∧ y.2.length = sz ∧ (∀ j, j < sz → w.cell? ((a.add (i * sz)).add j) = y.2[j]?) ∧ CellsRep w y.2 (enc' y.1) := by
      intro i h
      obtain ⟨cs', h1, h2⟩ := hi i (by omega)
      obtain ⟨_, q1, q2⟩ := World.cells?_some h1
      obtain ⟨avs, ⟨y, rfl, hp⟩, hcr⟩ := hS H enc w spare held n _ _ h2 (all_mono hwt.2 fun m hm => List.mem_append_left _ (weightsAll_mem (List.mem_map_of_mem (List.mem_range.2 h)) m hm))
      exact ⟨(y, cs'), hp, q1, q2, hcr⟩
    obtain ⟨f, hf⟩ := choose_lt hc
    refine ⟨_, ⟨(List.range len).map fun i => (f i).1, rfl, by simpa using hlb, fun y hy => ?_⟩, rfl, fun j x hx => ?_⟩
    · obtain ⟨i, h1, rfl⟩ := List.mem_map.1 hy
      exact (hf i (by simpa using h1)).1
    · cases j with
      | succ j => simp at hx
      | zero =>
        simp only [List.getElem?_cons_zero, Option.some.injEq] at hx
        subst hx
        have hgd : ∀ i, i < len → ((List.range len).map fun i => (f i).1).getD i default = (f i).1 := fun i h => by
          simp [List.getD_eq_getElem?_getD, h]
        have hspot : 0 < len → ∃ b o, a = ⟨b, o, none⟩ ∧ b < w.heap.size := by
          intro h0
          obtain ⟨_, q1, q2, _⟩ := hf 0 h0
          have hc0 := q2 0 hpos
          have hsome : ∃ v, (f 0).2[0]? = some v := ⟨_, List.getElem?_eq_getElem (by omega)⟩
          obtain ⟨v, hv⟩ := hsome
          rw [hv] at hc0
          simp only [Nat.zero_mul] at hc0
          have ha0 : (a.add 0).add 0 = a := by simp [Addr.add]
          rw [ha0] at hc0
          have hs := World.cell?_spot hc0
          obtain ⟨b, o, sp⟩ := a
          simp only at hs; subst hs
          refine ⟨b, o, rfl, ?_⟩
          rcases Nat.lt_or_ge b w.heap.size with h | h
          · exact h
          · simp [World.cell?, Array.getElem?_eq_none h] at hc0
        show Rep _ _ _ (roL sz enc' _) (Value.slice (some a) len cap)
        have hlen2 : ((List.range len).map fun i => (f i).1).length = len := by simp
        unfold roL
        rw [hlen2]
        refine .ro _ _ _ _ _ _ (fun i j => (f i).2.getD j undef) hl hm (fun h0 => ?_) (fun i _ => hlen _) (fun i j x hi' hx => ?_)
        · obtain ⟨b, o, rfl, hb⟩ := hspot h0
          refine ⟨b, o, rfl, hb, fun i j hi' hj => ?_⟩
          obtain ⟨_, q1, q2, _⟩ := hf i hi'
          have := q2 j hj
          rw [add_none, add_none] at this
          rw [this, List.getElem?_eq_getElem (by omega)]
          simp [q1, hj]
        · rw [hgd i hi'] at hx
          exact (hf i hi').2.2.2.2 j x hx

theorem OpensC.mono {P : Program} {t : TypeId} {S S' : List AV → Prop} (h : OpensC P t S) (hs : ∀ avs, S avs → S' avs) : OpensC P t S' :=
  fun H enc w spare held fuel cs x hx hwt => let ⟨avs, h1, h2⟩ := h H enc w spare held fuel cs x hx hwt; ⟨avs, hs _ h1, h2⟩

def AllOpen (P : Program) : List Field → List (List AV → Prop) → Prop
  | [], [] => True
  | f :: fs, S :: Ss => OpensC P f.type S ∧ AllOpen P fs Ss
  | _, _ => False
theorem allOpen_len {P : Program} : ∀ {fs : List Field} {Ss : List (List AV → Prop)}, AllOpen P fs Ss → fs.length = Ss.length
  | [], [], _ => rfl
  | f :: fs, S :: Ss, h => by simp [allOpen_len h.2]
  | [], _ :: _, h => h.elim
  | _ :: _, [], h => h.elim
theorem allOpen_at {P : Program} : ∀ {fs : List Field} {Ss : List (List AV → Prop)}, AllOpen P fs Ss → ∀ (i : Nat) (f : Field) (S : List AV → Prop), fs[i]? = some f → Ss[i]? = some S → OpensC P f.type S
  | [], [], _, i, f, S, h1, h2 => by simp at h1
  | f :: fs, S :: Ss, h, i, g, T, h1, h2 => by
    cases i with
    | zero => simp at h1 h2; subst h1 h2; exact h.1
    | succ i => exact allOpen_at h.2 i g T (by simpa using h1) (by simpa using h2)
  | [], _ :: _, h, _, _, _, _, _ => h.elim
  | _ :: _, [], h, _, _, _, _, _ => h.elim
theorem opens_fields {P : Program} {t : TypeId} {fs : Array Field} (ht : P.underlying t = some (.struct fs)) {Ss : List (List AV → Prop)} (hl : layB P (P.cellsOf t) 0 fs.toList = true) (hS : AllOpen P fs.toList Ss) : OpensC P t (SCat Ss) :=
  opens_struct ht Ss (allOpen_len hS) hl (allOpen_at hS)

/-- A value as it comes in: of a type of several cells, or of one. -/
theorem open_value {P : Program} {t : TypeId} {S : List AV → Prop} (h : OpensC P t S) {H : Type} {enc : TypeId × Value → H} {w : World} {spare : Nat → Bool} {held : Bool} {v : Value} {d : DataW H} {ps : List MemPlace} {ts : List TypeId} {ds : List (DataW H)} (hs : (DataW.weightsEach P ts ds).all (· ≤ reachBytes) = true) (j : Nat) (h1 : ts[j]? = some t) (h2 : ds[j]? = some d) (hd : DataW.Trod enc P w 0 spare held t v d ps) :
    ∃ avs, S avs ∧ CellsRep w v.cells.toList avs := by
  obtain ⟨fuel, hf⟩ := hd
  exact h H enc w spare held fuel _ _ hf (all_mono hs fun n hn => DataW.weights_mem_each h1 h2 n hn)
theorem rep_agg_of {w : World} {v : Value} {vs : Array Value} {avs : List AV} (hv : v = .agg vs) (h : CellsRep w v.cells.toList avs) : Rep (fun k => k < w.heap.size) w (fun _ => none) (.agg avs) v := by
  subst hv
  exact .agg _ _ _ (by simpa [Value.cells] using h.1.symm) fun j c hc => by simpa [Value.cells] using h.2 j c hc
theorem rep_one_of {w : World} {v : Value} {x : AV} (hv : v.cells = #[v]) (h : CellsRep w v.cells.toList [x]) : Rep (fun k => k < w.heap.size) w (fun _ => none) x v := by
  have := h.2 0 x rfl
  rw [hv] at this
  simpa using this
theorem one_slice {P : Program} {t e : TypeId} {w : World} {r : Reach} {b : Nat} {v : Value} (ht : P.underlying t = some (.slice e)) (h : Value.okWide P w r b t v) : v.cells = #[v] := by
  obtain ⟨_, _, _, rfl⟩ := WideShapes.okWide_slice ht h
  rfl
theorem one_int {P : Program} {t : TypeId} {k : IntKind} {w : World} {r : Reach} {b : Nat} {v : Value} (ht : P.underlying t = some (.int k)) (h : Value.okWide P w r b t v) : v.cells = #[v] := by
  obtain ⟨_, rfl⟩ := WideShapes.okWide_int ht h
  rfl
end Go.Abs
