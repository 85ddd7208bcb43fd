/- One operation, regions, code, calls: their rules over what is known. No condition. -/
import Derived.Test.YtjjgjflbhpoloaaAbs
import Derived.Tactics
set_option linter.unusedVariables false
set_option linter.unusedSimpArgs false
namespace Go.Abs
open Go Go.RowKit
set_option linter.unusedVariables false
def fnB (P : Program) (f : FuncId) : Bool :=
 match P.funcs[f]? with
 | some fn => fn.name != "runtime.NumGoroutine" && fn.body.isSome
 | none => false
def ACallIs (P : Program) (f : FuncId) (avs : List AV) (r : AV) : Prop :=
 fnB P f = true ∧ ∀ (F : Nat → Prop) (w : World) (vs : List Value), (∀ k, F k → k < w.heap.size) → vs.length = avs.length → (∀ (j : Nat) (x : AV), avs[j]? = some x → Rep F w (fun _ => none) x (vs.getD j undef)) →
  Calls P f vs.toArray w fun e w' => ∃ v F', e = .returned v ∧ Below w.heap.size w w' ∧ (∀ k, F k → F' k) ∧ (∀ k, F' k → F k ∨ w.heap.size ≤ k) ∧ (∀ k, F' k → k < w'.heap.size) ∧ Rep F' w' (fun _ => none) r v
structure MSpec where
 args : List AV
 pre : List (Nat × HO)
 res : AV
 post : List (Nat × HO)
def domP (h : List (Nat × HO)) (nm : Nm) : Prop :=
 match look h nm.id with
 | some (.fam D _) => D nm.ix
 | some _ => nm.ix = []
 | none => False
def HO.refsP (p : Nm → Prop) : HO → Prop
 | .cells cs => AV.refsPL p cs
 | .row _ _ _ _ => True
 | .rows _ _ n f => ∀ i, i < n → AV.refsPL p (f i)
 | .fam D f => ∀ ix, D ix → (f ix).refsP p
def heapRefs (p : Nm → Prop) : List (Nat × HO) → Prop
 | [] => True
 | (_, o) :: r => o.refsP p ∧ heapRefs p r
def keptDom (post : List (Nat × HO)) : List (Nat × HO) → Prop
 | [] => True
 | (k, o) :: r => (match look post k, o with
  | none, _ => True
  | some (.fam D' _), .fam D _ => ∀ ix, D ix → D' ix
  | some (.fam _ _), _ => False
  | some _, .fam _ _ => False
  | some _, _ => True) ∧ keptDom post r
def MSpec.closed (sp : MSpec) : Prop := heapRefs (domP sp.pre) sp.pre ∧ AV.refsPL (domP sp.pre) sp.args ∧ keptDom sp.post sp.pre
def ownB (τ : Nm → Option Value) (b : Nat) : Prop := ∃ nm u, τ nm = some u ∧ hblk u = some b
def cxM (P : Program) (n : Nat) (F : Nat → Prop) (τ : Nm → Option Value) (w : World) : Cx := ⟨P, n, F, ownB τ, w, τ, []⟩
def ACallM (P : Program) (f : FuncId) (sp : MSpec) : Prop :=
 fnB P f = true ∧ sp.closed ∧ ∀ (F : Nat → Prop) (τ : Nm → Option Value) (w : World) (vs : List Value), RelW (cxM P 0 F τ w) τ F ⟨[], sp.pre⟩ w → vs.length = sp.args.length → (∀ (j : Nat) (x : AV), sp.args[j]? = some x → Rep F w τ x (vs.getD j undef)) →
  Calls P f vs.toArray w fun e w' => ∃ v F' τ', e = .returned v ∧ RelW (cxM P 0 F τ w) τ' F' ⟨[], sp.post⟩ w' ∧ Rep F' w' τ' sp.res v
def ACallP (P : Program) (f : FuncId) (avs : List AV) (R : AV → Prop) : Prop :=
 fnB P f = true ∧ ∀ (F : Nat → Prop) (w : World) (vs : List Value), (∀ k, F k → k < w.heap.size) → vs.length = avs.length → (∀ (j : Nat) (x : AV), avs[j]? = some x → Rep F w (fun _ => none) x (vs.getD j undef)) →
  Calls P f vs.toArray w fun e w' => ∃ v F' r, R r ∧ e = .returned v ∧ Below w.heap.size w w' ∧ (∀ k, F k → F' k) ∧ (∀ k, F' k → F k ∨ w.heap.size ≤ k) ∧ (∀ k, F' k → k < w'.heap.size) ∧ Rep F' w' (fun _ => none) r v
def ACallR (P : Program) (f : FuncId) (args : List AV) (pre : List (Nat × HO)) (R : AV → List (Nat × HO) → Prop) : Prop :=
 fnB P f = true ∧ (heapRefs (domP pre) pre ∧ AV.refsPL (domP pre) args ∧ ∀ res post, R res post → keptDom post pre) ∧ ∀ (F : Nat → Prop) (τ : Nm → Option Value) (w : World) (vs : List Value), RelW (cxM P 0 F τ w) τ F ⟨[], pre⟩ w → vs.length = args.length → (∀ (j : Nat) (x : AV), args[j]? = some x → Rep F w τ x (vs.getD j undef)) →
  Calls P f vs.toArray w fun e w' => ∃ v F' τ' res post, R res post ∧ e = .returned v ∧ RelW (cxM P 0 F τ w) τ' F' ⟨[], post⟩ w' ∧ Rep F' w' τ' res v
mutual
def AV.exact : AV → Option Value
 | .val v => some v
 | .agg cs => (AV.exactL cs).map fun vs => .agg vs.toArray
 | .tup cs => (AV.exactL cs).map fun vs => .tuple vs.toArray
 | _ => none
def AV.exactL : List AV → Option (List Value)
 | [] => some []
 | x :: r => match AV.exact x, AV.exactL r with
  | some v, some vs => some (v :: vs)
  | _, _ => none
end
/-! Names are turned, number by number. -/
def sg (σ : List (Nat × Nat)) (k : Nat) : Nat := match look σ k with
 | some j => j
 | none => k
mutual
def AV.sig (σ : List (Nat × Nat)) : AV → AV
 | .val v => .val v
 | .any => .any
 | .ro sz n row => .ro sz n row
 | .ptr cs => .ptr cs
 | .cond g x => .cond g (AV.sig σ x)
 | .agg cs => .agg (AV.sigL σ cs)
 | .tup cs => .tup (AV.sigL σ cs)
 | .fn f cs => .fn f (AV.sigL σ cs)
 | .obj id off => .obj ⟨sg σ id.id, id.ix⟩ off
 | .sl id n => .sl ⟨sg σ id.id, id.ix⟩ n
 | .so id esz off n => .so ⟨sg σ id.id, id.ix⟩ esz off n
 | .rp id esz i off => .rp ⟨sg σ id.id, id.ix⟩ esz i off
def AV.sigL (σ : List (Nat × Nat)) : List AV → List AV
 | [] => []
 | x :: r => AV.sig σ x :: AV.sigL σ r
end
def HO.sig (σ : List (Nat × Nat)) : HO → HO
 | .cells cs => .cells (AV.sigL σ cs)
 | .row e esz n f => .row e esz n f
 | .rows e esz n f => .rows e esz n fun i => AV.sigL σ (f i)
 | .fam D f => .fam D fun ix => (f ix).sig σ
def sigH (σ : List (Nat × Nat)) (h : List (Nat × HO)) : List (Nat × HO) := h.map fun x => (sg σ x.1, x.2.sig σ)
def AllAt (h : List (Nat × HO)) : List (Nat × HO) → Prop
 | [] => True
 | (k, o) :: r => look h k = some o ∧ AllAt h r
def NoneAt (h : List (Nat × HO)) (p : List Nat) : List (Nat × HO) → Bool
 | [] => true
 | (k, _) :: r => (p.elem k || (look h k).isNone) && NoneAt h p r
def nodupB : List Nat → Bool
 | [] => true
 | x :: r => !r.elem x && nodupB r
def St.after (s : St) (σ : List (Nat × Nat)) (sp : MSpec) (d : Nat) : St :=
 let pre := sp.pre.map fun x => sg σ x.1
 let post := sp.post.map fun x => sg σ x.1
 let lost := pre.filter fun k => !post.elem k
 { env := (d, sp.res.sig σ) :: s.env.map fun x => (x.1, x.2.keep fun nm => !lost.elem nm.id),
   heap := sigH σ sp.post ++ (s.heap.filter fun x => !pre.elem x.1).map fun x => (x.1, x.2.keep fun nm => !lost.elem nm.id) }
def sigOK (s : St) (σ : List (Nat × Nat)) (sp : MSpec) : Bool :=
 let pre := sp.pre.map fun x => x.1
 let post := sp.post.map fun x => x.1
 let ids := pre ++ post.filter fun k => !pre.elem k
 (ids.all fun k => (look σ k).isSome) && nodupB (ids.map (sg σ)) && nodupB pre && nodupB post && (pre.all fun k => Nat.ble 1000 k) && (post.all fun k => Nat.blt k 1000 || pre.elem k) && NoneAt s.heap (pre.map (sg σ)) (sigH σ sp.post) &&
 (post.all fun k => pre.elem k || Nat.blt (sg σ k) 1000)
mutual
def AV.noRo : AV → Bool
 | .val _ | .any | .obj _ _ | .sl _ _ | .so _ _ _ _ | .rp _ _ _ _ => true
 | .ro _ _ _ | .ptr _ => false
 | .cond _ x => AV.noRo x
 | .agg cs | .tup cs | .fn _ cs => AV.noRoL cs
def AV.noRoL : List AV → Bool
 | [] => true
 | x :: r => AV.noRo x && AV.noRoL r
end
def HO.noRo : HO → Prop
 | .cells cs => AV.noRoL cs = true
 | .row _ _ n f => ∀ i, i < n → AV.noRoL (f i) = true
 | .rows _ _ n f => ∀ i, i < n → AV.noRoL (f i) = true
 | .fam D f => ∀ ix, D ix → (f ix).noRo
def noRoH : List (Nat × HO) → Prop
 | [] => True
 | (_, o) :: r => o.noRo ∧ noRoH r
def AV.orAny (x : AV) : AV := bif x.pureB then x else .any
def viewA (s : St) (V : List Nat) (y : AV) : AV :=
 match y with
 | .obj ⟨id, []⟩ off => bif V.elem id then (match look s.heap id with
  | some (.cells cs) => .ptr ((cs.map AV.orAny).drop off)
  | _ => y) else y
 | .sl ⟨id, []⟩ n => bif V.elem id then (match look s.heap id with
  | some (.row _ esz _ f) => .ro esz n f
  | _ => y) else y
 | y => y
def viewB (σ : List (Nat × Nat)) (V : List Nat) (sp : MSpec) : Bool := (V.all fun k => !((sp.pre.map fun x => sg σ x.1).elem k)) && AV.noRo sp.res
def sigPre (σ : List (Nat × Nat)) (pre : List (Nat × HO)) : Bool := nodupB ((pre.map fun x => x.1).map (sg σ))
def CallX (P : Program) (n : Nat) (s : St) (f : FuncId) (ys : List AV) (d : Nat) (K : St → Prop) : Prop :=
 (AV.pureL (borrowL s ys).1 = true ∧ ∃ y, ACallIs P f (borrowL s ys).1 y ∧ (AV.pureB y && (!(borrowL s ys).2 || (AV.exact y).isSome)) = true ∧ K (s.put d y)) ∨
 (∃ sp σ, ACallM P f sp ∧ ys = AV.sigL σ sp.args ∧ AllAt s.heap (sigH σ sp.pre) ∧ sigOK s σ sp = true ∧ K (s.after σ sp d)) ∨
 (AV.pureL (borrowL s ys).1 = true ∧ (borrowL s ys).2 = false ∧ ∃ R, ACallP P f (borrowL s ys).1 R ∧ ∀ y, R y → AV.pureB y = true ∧ K (s.put d y)) ∨
 (∃ args pre R σ, ACallR P f args pre R ∧ ys = AV.sigL σ args ∧ AllAt s.heap (sigH σ pre) ∧ sigPre σ pre = true ∧ ∀ res post, R res post → sigOK s σ ⟨args, pre, res, post⟩ = true ∧ K (s.after σ ⟨args, pre, res, post⟩ d)) ∨
 (∃ sp σ V, ACallM P f sp ∧ ys.map (viewA s V) = AV.sigL σ sp.args ∧ AllAt s.heap (sigH σ sp.pre) ∧ sigOK s σ sp = true ∧ viewB σ V sp = true ∧ noRoH sp.post ∧ K (s.after σ sp d))
def fnv (x : AV) (K : Nat → List AV → Prop) : Prop :=
 match x with
 | .fn f caps => K f caps
 | .val (.func (.func f) ⟨[]⟩ ⟨[]⟩) => K f []
 | _ => False
def aop (B : Tabs) (n : Nat) (s : St) (op : Op) (d : Option Nat) (K : St → Prop) : Prop :=
 match op, d with
 | .call { callee := .value x, args := as, argTypes := _ }, some d => chk (Nat.blt d n) (aget true s x fun fv => fnv fv fun f caps => agets true s as.toList fun ys => CallX B.P n s f (ys ++ caps) d K)
 | .alloc t, some d => chk (Nat.blt d n) (chk (look s.heap d).isNone (match look B.Z t with
  | some vs => K (s.new d (.obj ⟨d, []⟩ 0) (.cells (vs.map .val)))
  | none => False))
 | .box _ x, some d => chk (Nat.blt d n) (chk (look s.heap d).isNone (aget true s x fun xv => cellsV xv fun cs => K (s.new d (.obj ⟨d, []⟩ 0) (.cells cs))))
 | .buildSlice t len parts, some d => chk (Nat.blt d n) (chk (look s.heap d).isNone (match look B.T t with
  | some (.slice e esz _) => (match look B.Z e with
   | some zs => chk (Nat.beq zs.length esz) (chk (Nat.beq parts.toList.length len) (chk (Nat.ble (len * esz) 16777216) (partsV s esz 0 parts.toList fun rows => mkK (!(rows.all AV.pureL)) e esz len (fun i => rows.getD i []) fun o => K (s.new d (.sl ⟨d, []⟩ len) o))))
   | none => False)
  | _ => False))
 | .makeSlice t l c, some d => chk (Nat.blt d n) (chk (look s.heap d).isNone (match look B.T t with
  | some (.slice e esz by_) => (match look B.Z e with
   | some zs => chk (Nat.beq zs.length esz) (chk (Nat.blt 0 by_) (aget true s l fun lv => aget true s c fun cv => (match lv, cv with
    | .val (.int _ a), .val (.int _ b) => a = b ∧ 0 ≤ a ∧ by_ * a.toNat ≤ 281474976710656 ∧ K (s.new d (.sl ⟨d, []⟩ a.toNat) (.row e esz a.toNat fun _ => zs.map .val))
    | _, _ => False)))
   | none => False)
  | _ => False))
 | .call { callee := .builtin .append, args := as, argTypes := ts }, some d => chk (Nat.blt d n) (chk (look s.heap d).isNone (match as.toList, ts.toList with
  | [x, y], [t, t'] => chk (Nat.beq t t') (match look B.T t with
   | some (.slice e esz by_) => (match look B.Z e with
    | some zs => chk (Nat.beq zs.length esz) (chk (Nat.blt 0 by_) (aget true s x fun xv => aget true s y fun yv => srcV s e esz yv fun r m row => appV s d e esz by_ xv r m row K))
    | none => False)
   | _ => False)
  | _, _ => False))
 | .call { callee := .builtin .copy, args := as, argTypes := ts }, some d => chk (Nat.blt d n) (match as.toList, ts.toList with
  | [x, y], [t, t'] => chk (Nat.beq t t') (match look B.T t with
   | some (.slice e esz _) => aget true s x fun xv => aget true s y fun yv => srcV s e esz yv fun r m row => copyV s esz xv r m row fun q s' => K (s'.put d (.i64 (q : Int)))
   | _ => False)
  | _, _ => False)
 | .store t x y, none => aget true s x fun xv => aget true s y fun yv => cellsV yv fun cs => (match xv with
  | .rp id esz i off => getO true s.heap id fun o => (match o, look B.T t with
   | .row e esz' n' row, some ti => chk (Nat.beq esz esz') (chk (Nat.ble (off + cs.length) esz) (chk (ti.szB cs.length) (chk (cs.all AV.oneB) (chk (AV.pureL cs || notFam s.heap id.id) (i < n' ∧ mkK (!AV.pureL cs) e esz' n' (fun j => if j = i then (row i).take off ++ cs ++ (row i).drop (off + cs.length) else row j) fun o' => K { s with heap := setO s.heap id o' })))))
   | .rows e esz' n' row, some ti => chk (Nat.beq esz esz') (chk (Nat.ble (off + cs.length) esz) (chk (ti.szB cs.length) (chk (cs.all AV.oneB) (i < n' ∧ K { s with heap := setO s.heap id (.rows e esz' n' fun j => if j = i then (row i).take off ++ cs ++ (row i).drop (off + cs.length) else row j) }))))
   | _, _ => False)
  | .obj id off => getO true s.heap id fun o => (match o, look B.T t with
   | .cells old, some ti => chk (Nat.ble (off + cs.length) old.length) (chk (ti.szB cs.length) (chk (cs.all AV.oneB) (K { s with heap := setO s.heap id (.cells (old.take off ++ cs ++ old.drop (off + cs.length))) })))
   | _, _ => False)
  | _ => False)
 | op, some d => chk (Nat.blt d n) (qop B true s op fun y => K (s.put d y))
 | _, _ => False
def guardB (ops : List Oper) (s : St) (i : Nat) (b : Bool) (K : Bool → Prop) : Prop :=
 match (ops[i]?).bind (·.dst) with
 | some d => (match look s.env d with
  | some (.val (.bool x)) => K (x == b)
  | some (.cond g (.val (.bool x))) => K (g && (x == b))
  | _ => False)
 | none => False
def CallK (P : Program) (g : Bool) (f : FuncId) (avs : List AV) (K : AV → Prop) : Prop := ∃ y, (g = true → ACallIs P f avs y) ∧ K y
def aopG (B : Tabs) (n : Nat) (g : Bool) (s : St) (op : Op) (d : Option Nat) (K : St → Prop) : Prop :=
 match op, d with
 | .call { callee := .value (.func f), args := as, argTypes := _ }, some d => chk (Nat.blt d n) (agets g s as.toList fun ys => chk (AV.pureL (borrowL s ys).1) (CallK B.P g f (borrowL s ys).1 fun y => chk (AV.pureB y && (!(borrowL s ys).2 || (AV.exact y).isSome)) (K (s.put d (.cond g y)))))
 | op, some d => chk (Nat.blt d n) (qop B g s op fun y => K (s.put d (.cond g y)))
 | _, none => False
def aops (B : Tabs) (n : Nat) (ops : List Oper) : List Oper → St → (St → Prop) → Prop
 | [], s, K => K s
 | o :: r, s, K => match o.guard with
  | none => aop B n s o.op o.dst fun s' => aops B n ops r s' K
  | some (i, b) => guardB ops s i b fun g => aopG B n g s o.op o.dst fun s' => aops B n ops r s' K
end Go.Abs
namespace Go.Abs
open Go Go.RowKit
set_option linter.unusedVariables false
theorem rowτ_mono (r : Bool) {τ τ' : Nm → Option Value} (h : ∀ id u, τ id = some u → τ' id = some u) : ∀ id u, rowτ r τ id = some u → rowτ r τ' id = some u := by
 cases r with
 | true => exact h
 | false => intro _ _ h; cases h
theorem appV_sound {cx τ F s a w} (h : RelA cx τ F s a w) {d e esz by_ t ty m : Nat} {x : AV} {r : Bool} {row : Nat → List AV} {K : St → Prop} (ha : appV s d e esz by_ x r m row K) (hd : d < cx.n) (hf : look s.heap d = none)
  (hok : (TI.slice e esz by_).okB cx.P t = true) {zs : List Value} (hz : zeroCells cx.P e = some zs) (hzl : zs.length = esz) (hby0 : 0 < by_) {u v : Value} (hs : SrcAt F w (rowτ r τ) esz m row u) (hone : ∀ i, i < m → (row i).all AV.oneB = true) (hx : Rep F w τ x v) :
  ∃ v' w' s', (Builtin.append_ #[t, t] ty #[v, u]).run cx.P w = .ok v' w' ∧ K s' ∧ Rel cx s' (a.put (some d) v') w' := by
 have hrl : ∀ i, i < m → (row i).length = esz := by obtain ⟨_, _, _, h, _⟩ := hs; exact h
 unfold appV at ha
 split at ha
 ·obtain ⟨hbytes, hK⟩ := ha
  have hK := mkK_spec hK
  cases hx
  have hown : w.ownsRow 0 e esz (.slice none 0 0) 0 [] := ⟨by simp, .inl ⟨rfl, rfl⟩⟩
  obtain ⟨v', w', news, q1, q2, q3, q4, q5, q6⟩ := append_run (ty := ty) hok hz hzl hown hs hone hby0 (by simpa using hbytes)
  have hc := h.change q3 (fun k hk => by simp [Value.ownBlock] at hk)
  have hF : ∀ k, F k → w'.heap[k]? = w.heap[k]? := fun k hk => q3.block k (h.wr.fz k hk) (by simp [Value.ownBlock])
  simp only [Nat.zero_add, List.nil_append] at q2
  refine ⟨v', w', _, q1, hK, hc.add hd hf (HO.mk_flat _ _ _ _ _) (v := v') (fun b hb => ?_) fun τ' hτ hτd => ⟨hok_mk.2 ⟨news, q2, hrl, fun i j y hi hy => (q6 i j y hi hy).mono (fun _ h => h) hF (rowτ_mono r hτ)⟩, own_sl q2 hτd⟩⟩
  have hlt := own_lt q2 hb
  rw [own_hblk q2] at hb
  have hbe : b = w.heap.size := by
   rcases q4 with q4 | q4
   ·rw [q4] at hb; simp [Value.ownBlock] at hb
   ·rw [q4] at hb; injection hb with hb; exact hb.symm
  subst hbe
  refine ⟨⟨.inl h.wr.keeps.size, hlt⟩, fun hFk => absurd (h.wr.fz _ hFk) (by omega), fun id u hu e => ?_⟩
  have := (h.wr.tlt id u _ hu e).2; omega
 ·rename_i id n
  have key : ∀ (r' rr : Bool) (e' esz' n' : Nat) (row' : Nat → List AV), look s.heap id = some (HO.mk r' e' esz' n' row') → esz' = esz → e' = e → id ≠ d → n = n' → (n + m) * by_ ≤ 140737488355328 →
    (r = true → rr = true) → (r' = true → rr = true) → (r = true → ∀ i, i < m → AV.refsL (notId id) (row i) = true) → (r' = true → ∀ i, i < n → AV.refsL (notId id) (row' i) = true) →
    K ((s.drop id).new d (.sl ⟨d, []⟩ (n + m)) (HO.mk rr e esz (n + m) fun i => if i < n then row' i else row (i - n))) →
    ∃ v' w' s', (Builtin.append_ #[t, t] ty #[v, u]).run cx.P w = .ok v' w' ∧ K s' ∧ Rel cx s' (a.put (some d) v') w' := by
   intro r' rr e' esz' n' row' hl e1 e2 hne hnn hbytes hr1 hr2 hm1 hm2 hK
   subst e1 e2 hnn
   cases hx with
   | sl _ _ _ A m' c hτ hm' hc' hA =>
    obtain ⟨hv, r1, ho⟩ := h.wr.obj ⟨id, []⟩ _ (Has.of_look hl (HO.mk_flat _ _ _ _ _))
    obtain ⟨xs, hown, r3, r4⟩ := hok_mk.1 ho
    rw [hτ] at r1; injection r1 with r1; subst r1
    have hmn := own_form hown
    subst hmn
    obtain ⟨v', w', news, q1, q2, q3, q4, q5, q6⟩ := append_run (ty := ty) hok hz hzl hown hs hone hby0 hbytes
    have hdrop := h.drop id
    have hb0 : ∀ k, (Value.slice A m' c).ownBlock = some k → hblk (Value.slice A m' c) = some k := fun k hk => by rw [own_hblk hown]; exact hk
    have hwo : ∀ i u, without τ id i = some u → i ≠ ⟨id, []⟩ ∧ τ i = some u := fun i u hu => by
     unfold without at hu
     split at hu
     ·cases hu
     ·rename_i e; exact ⟨fun e2 => e (by rw [e2]), hu⟩
    have hrow : ∀ k, (Value.slice A m' c).ownBlock = some k → (cx.w.heap.size ≤ k ∨ cx.X k) ∧ (¬ F k) ∧ ∀ i u, without τ id i = some u → hblk u ≠ some k := fun k hk =>
     ⟨(h.wr.tlt ⟨id, []⟩ _ k hτ (hb0 k hk)).1, fun hFk => h.wr.fne k ⟨id, []⟩ _ hFk hτ (hb0 k hk), fun i u hu e => (hwo i u hu).1 (h.wr.inj i ⟨id, []⟩ u _ k (hwo i u hu).2 hτ e (hb0 k hk))⟩
    have hc := hdrop.change q3 hrow
    have hF : ∀ k, F k → w'.heap[k]? = w.heap[k]? := fun k hk => q3.block k (h.wr.fz k hk) (fun e => (hrow k e.symm).2.1 hk)
    have hfd : look (s.drop id).heap d = none := by
     simp only [St.drop]
     rw [look_map (fun o : HO => o.keep (notId id)), look_filter, if_neg (fun e => hne e.symm), hf]; rfl
    refine ⟨v', w', _, q1, hK, hc.add hd hfd (HO.mk_flat _ _ _ _ _) (v := v') (fun b hb => ?_) fun τ' hτ' hτd => ⟨hok_mk.2 ⟨xs ++ news, q2, fun i hi => ?_, fun i j y hi hy => ?_⟩, own_sl q2 hτd⟩⟩
    ·have hlt := own_lt q2 hb
     rw [own_hblk q2] at hb
     rcases q4 with q4 | q4
     ·rw [q4] at hb
      exact ⟨⟨(hrow b hb).1, hlt⟩, (hrow b hb).2⟩
     ·rw [q4] at hb; injection hb with hb; subst hb
      refine ⟨⟨.inl h.wr.keeps.size, hlt⟩, fun hFk => absurd (h.wr.fz _ hFk) (by omega), fun i u hu e => ?_⟩
      have := (h.wr.tlt i u _ (hwo i u hu).2 e).2; omega
    ·by_cases hi' : i < m'
     ·simp only [hi', if_true]; exact r3 i hi'
     ·simp only [hi', if_false]; exact hrl _ (by omega)
    ·
     have turn : ∀ (q : Bool) (cs : List AV) (y : AV) (z : Value) (j : Nat), cs[j]? = some y → (q = true → rr = true) → (q = true → AV.refsL (notId id) cs = true) → Rep F w (rowτ q τ) y z → Rep F w' (rowτ rr τ') y z := by
      intro q cs y z j hy hq hcs hr
      cases rr with
      | false =>
       cases q with
       | true => exact absurd (hq rfl) (by simp)
       | false => exact hr.mono (fun _ h => h) hF (fun _ _ h => by cases h)
      | true =>
       cases q with
       | false => exact hr.mono (fun _ h => h) hF (fun _ _ h => by cases h)
       | true =>
        have h1 : Rep F w (without τ id) y z := hr.refs (p := fun k => notId id k = true) (fun k hk => by unfold without; rw [if_neg (notId_ne hk)]; rfl) (refsPL_at (refsPL_of (fun _ h => h) (hcs rfl)) j y hy)
        exact h1.mono (fun _ h => h) hF hτ'
     by_cases hi' : i < m'
     ·simp only [hi', if_true] at hy
      have hj : j < esz' := by have h1 : j < (row' i).length := (List.getElem?_eq_some_iff.1 hy).1; rw [r3 i hi'] at h1; exact h1
      have hlt : i * esz' + j < m' * esz' := by
       have : (i + 1) * esz' ≤ m' * esz' := Nat.mul_le_mul_right _ hi'
       rw [Nat.add_mul, Nat.one_mul] at this; omega
      have e3 : (xs ++ news).getD (i * esz' + j) undef = xs.getD (i * esz' + j) undef := by
       simp only [List.getD_eq_getElem?_getD]
       rw [List.getElem?_append_left (by rw [hown.1]; exact hlt)]
      rw [e3]; exact turn r' _ _ _ j hy hr2 (fun h => hm2 h i hi') (r4 i j y hi' hy)
     ·simp only [hi', if_false] at hy
      have e3 : (xs ++ news).getD (i * esz' + j) undef = news.getD ((i - m') * esz' + j) undef := by
       simp only [List.getD_eq_getElem?_getD]
       have hle : m' * esz' ≤ i * esz' := Nat.mul_le_mul_right _ (by omega)
       rw [List.getElem?_append_right (by rw [hown.1]; omega), hown.1, Nat.sub_mul]
       congr 2; omega
      rw [e3]; exact turn r _ _ _ j hy hr1 (fun h => hm1 h (i - m') (by omega)) (q6 (i - m') j y (by omega) hy)
  split at ha
  ·rename_i e' esz' n' row' hl
   obtain ⟨hz1, ha⟩ := chk_spec ha
   obtain ⟨hz2, ha⟩ := chk_spec ha
   obtain ⟨hz3, ha⟩ := chk_spec ha
   obtain ⟨hnn, hbytes, ha⟩ := ha
   split at ha
   ·exact key false true e' esz' n' row' hl (Nat.eq_of_beq_eq_true hz1) (Nat.eq_of_beq_eq_true hz2) (by rintro rfl; simp at hz3) hnn hbytes (fun _ => rfl) (fun h => by cases h) (fun _ => ha.1) (fun h => by cases h) ha.2
   ·exact key false false e' esz' n' row' hl (Nat.eq_of_beq_eq_true hz1) (Nat.eq_of_beq_eq_true hz2) (by rintro rfl; simp at hz3) hnn hbytes (fun h => by cases h) (fun h => by cases h) (fun h => by cases h) (fun h => by cases h) ha
  ·rename_i e' esz' n' row' hl
   obtain ⟨hz1, ha⟩ := chk_spec ha
   obtain ⟨hz2, ha⟩ := chk_spec ha
   obtain ⟨hz3, ha⟩ := chk_spec ha
   obtain ⟨hnn, hbytes, hm1, hm2, hK⟩ := ha
   exact key true true e' esz' n' row' hl (Nat.eq_of_beq_eq_true hz1) (Nat.eq_of_beq_eq_true hz2) (by rintro rfl; simp at hz3) hnn hbytes (fun _ => rfl) (fun _ => rfl) hm1 (fun _ => hm2) hK
  ·exact ha.elim
 ·rename_i id z off n
  split at ha
  ·rename_i e' esz' n' row' hl
   obtain ⟨z1, ha⟩ := chk_spec ha
   obtain ⟨z2, ha⟩ := chk_spec ha
   obtain ⟨z3, ha⟩ := chk_spec ha
   obtain ⟨z4, ha⟩ := chk_spec ha
   obtain ⟨z5, ha⟩ := chk_spec ha
   have e1 := Nat.eq_of_beq_eq_true z1
   have e2 := Nat.eq_of_beq_eq_true z2
   have e3 := Nat.eq_of_beq_eq_true z3
   have hne : id ≠ d := by rintro rfl; simp at z4
   subst e1 e2 e3
   have hr0 : r = false := by simpa using z5
   subst hr0
   obtain ⟨hon, hn0, hm0, hbytes, hK1, hK2⟩ := ha
   cases hx with
   | so _ _ _ _ _ A m' c Z hτ hm' hc' hA hZ hZ2 =>
    obtain ⟨hv, r1, ho⟩ := h.wr.obj ⟨id, []⟩ _ (Has.of_look hl rfl)
    obtain ⟨xs, hown, r3, r4⟩ := ho
    rw [hτ] at r1; injection r1 with r1; subst r1
    have hmn := own_form hown
    subst hmn
    have hdrop := h.drop id
    have hb0 : ∀ k, (Value.slice A m' c).ownBlock = some k → hblk (Value.slice A m' c) = some k := fun k hk => by rw [own_hblk hown]; exact hk
    have hwo : ∀ i u, without τ id i = some u → i ≠ ⟨id, []⟩ ∧ τ i = some u := fun i u hu => by
     unfold without at hu
     split at hu
     ·cases hu
     ·rename_i e; exact ⟨fun e2 => e (by rw [e2]), hu⟩
    have hrow : ∀ k, (Value.slice A m' c).ownBlock = some k → (cx.w.heap.size ≤ k ∨ cx.X k) ∧ (¬ F k) ∧ ∀ i u, without τ id i = some u → hblk u ≠ some k := fun k hk =>
     ⟨(h.wr.tlt ⟨id, []⟩ _ k hτ (hb0 k hk)).1, fun hFk => h.wr.fne k ⟨id, []⟩ _ hFk hτ (hb0 k hk), fun i u hu e => (hwo i u hu).1 (h.wr.inj i ⟨id, []⟩ u _ k (hwo i u hu).2 hτ e (hb0 k hk))⟩
    have hfd : look (s.drop id).heap d = none := by
     simp only [St.drop]
     rw [look_map (fun o : HO => o.keep (notId id)), look_filter, if_neg (fun e => hne e.symm), hf]; rfl
    rcases append_so (ty := ty) hok hz hzl hown hn0 hon hZ (hZ2 (by omega)) hs hone hm0 hby0 hbytes with ⟨w', news, q1, qc, q2, q3, q5, q6⟩ | ⟨v', w', news, q1, q2, q3, q4, q5, q6⟩
    ·have hc := hdrop.change q3 hrow
     have hF : ∀ k, F k → w'.heap[k]? = w.heap[k]? := fun k hk => q3.block k (h.wr.fz k hk) (fun e => (hrow k e.symm).2.1 hk)
     refine ⟨_, w', _, q1, hK1, hc.add hd hfd (o := .row e' esz' (m' + m) fun i => if i < m' then row' i else row (i - m')) rfl (x := .so ⟨d, []⟩ esz' off (n + m)) (v := .slice A (m' + m) c) (u := .slice Z (n + m) (c - off)) (fun b hb => ?_) fun τ' hτ' hτd => ⟨⟨xs ++ news, q2, fun i hi => ?_, fun i j y hi hy => ?_⟩, .so _ _ _ _ _ A (m' + m) c Z hτd (by omega) qc (fun _ => hA (by omega)) hZ (fun _ => hZ2 (by omega))⟩⟩
     ·have hb' : (Value.slice A m' c).ownBlock = some b := by cases A with | none => cases hb | some q => exact hb
      exact ⟨⟨(hrow b hb').1, own_lt q2 hb⟩, (hrow b hb').2⟩
     ·by_cases hi' : i < m'
      ·simp only [hi', if_true]; exact r3 i hi'
      ·simp only [hi', if_false]; exact hrl _ (by omega)
     ·by_cases hi' : i < m'
      ·simp only [hi', if_true] at hy
       have hj : j < esz' := by have h1 : j < (row' i).length := (List.getElem?_eq_some_iff.1 hy).1; rw [r3 i hi'] at h1; exact h1
       have hlt : i * esz' + j < m' * esz' := by
        have : (i + 1) * esz' ≤ m' * esz' := Nat.mul_le_mul_right _ hi'
        rw [Nat.add_mul, Nat.one_mul] at this; omega
       have e3 : (xs ++ news).getD (i * esz' + j) undef = xs.getD (i * esz' + j) undef := by
        simp only [List.getD_eq_getElem?_getD]
        rw [List.getElem?_append_left (by rw [hown.1]; exact hlt)]
       rw [e3]; exact (r4 i j y hi' hy).mono (fun _ h => h) hF (fun _ _ h => by cases h)
      ·simp only [hi', if_false] at hy
       have e3 : (xs ++ news).getD (i * esz' + j) undef = news.getD ((i - m') * esz' + j) undef := by
        simp only [List.getD_eq_getElem?_getD]
        have hle : m' * esz' ≤ i * esz' := Nat.mul_le_mul_right _ (by omega)
        rw [List.getElem?_append_right (by rw [hown.1]; omega), hown.1, Nat.sub_mul]
        congr 2; omega
       rw [e3]; exact (q6 (i - m') j y (by omega) hy).mono (fun _ h => h) hF (fun _ _ h => by cases h)
    ·have hc := hdrop.change q3 hrow
     have hF : ∀ k, F k → w'.heap[k]? = w.heap[k]? := fun k hk => q3.block k (h.wr.fz k hk) (fun e => (hrow k e.symm).2.1 hk)
     have hdl : (xs.drop (off * esz')).length = n * esz' := by rw [List.length_drop, hown.1, ← hon, Nat.add_mul]; omega
     refine ⟨v', w', _, q1, hK2, hc.add hd hfd (o := .row e' esz' (n + m) fun i => if i < n then row' (off + i) else row (i - n)) rfl (x := .sl ⟨d, []⟩ (n + m)) (v := v') (u := v') (fun b hb => ?_) fun τ' hτ' hτd => ⟨⟨xs.drop (off * esz') ++ news, q2, fun i hi => ?_, fun i j y hi hy => ?_⟩, own_sl q2 hτd⟩⟩
     ·have hlt := own_lt q2 hb
      rw [own_hblk q2, q4] at hb
      injection hb with hb; subst hb
      refine ⟨⟨.inl h.wr.keeps.size, hlt⟩, fun hFk => absurd (h.wr.fz _ hFk) (by omega), fun i u hu e => ?_⟩
      have := (h.wr.tlt i u _ (hwo i u hu).2 e).2; omega
     ·by_cases hi' : i < n
      ·simp only [hi', if_true]; exact r3 _ (by omega)
      ·simp only [hi', if_false]; exact hrl _ (by omega)
     ·by_cases hi' : i < n
      ·simp only [hi', if_true] at hy
       have hj : j < esz' := by have h1 : j < (row' (off + i)).length := (List.getElem?_eq_some_iff.1 hy).1; rw [r3 _ (by omega)] at h1; exact h1
       have hlt : i * esz' + j < n * esz' := by
        have : (i + 1) * esz' ≤ n * esz' := Nat.mul_le_mul_right _ hi'
        rw [Nat.add_mul, Nat.one_mul] at this; omega
       have e3 : (xs.drop (off * esz') ++ news).getD (i * esz' + j) undef = xs.getD ((off + i) * esz' + j) undef := by
        simp only [List.getD_eq_getElem?_getD]
        rw [List.getElem?_append_left (by rw [hdl]; exact hlt), List.getElem?_drop]
        congr 2
        rw [Nat.add_mul]; omega
       rw [e3]; exact (r4 (off + i) j y (by omega) hy).mono (fun _ h => h) hF (fun _ _ h => by cases h)
      ·simp only [hi', if_false] at hy
       have e3 : (xs.drop (off * esz') ++ news).getD (i * esz' + j) undef = news.getD ((i - n) * esz' + j) undef := by
        simp only [List.getD_eq_getElem?_getD]
        have hle : n * esz' ≤ i * esz' := Nat.mul_le_mul_right _ (by omega)
        rw [List.getElem?_append_right (by rw [hdl]; omega), hdl, Nat.sub_mul]
        congr 2; omega
       rw [e3]; exact (q6 (i - n) j y (by omega) hy).mono (fun _ h => h) hF (fun _ _ h => by cases h)
  ·exact ha.elim
 ·exact ha.elim
theorem RelA.writeRow {cx τ F s a w} (h : RelA cx τ F s a w) {id : Nm} {e esz n i off : Nat} {r r' : Bool} {row : Nat → List AV} (hl : Has s.heap id (HO.mk r e esz n row)) {b m c : Nat} (hτ : τ id = some (.slice (some ⟨b, 0, none⟩) m c)) (hi : i < n) {cs : List AV}
  (hoff : off + cs.length ≤ esz) {v : Value} (hsz : v.cells.size = cs.length) (hrep : ∀ (j : Nat) (x : AV), cs[j]? = some x → Rep F w τ x (v.cells.getD j undef)) (hone : cs.all AV.oneB = true) (hp : r' = false → AV.pureL cs = true) (hrr' : r = true → r' = true) (hrp : r = false → r' = true → notFam s.heap id.id = true) :
  ∃ w', (storeCells ⟨b, i * esz + off, none⟩ v.cells.toList 0).run cx.P w = .ok () w' ∧ RelA cx τ F { s with heap := setO s.heap id (HO.mk r' e esz n fun j => if j = i then (row i).take off ++ cs ++ (row i).drop (off + cs.length) else row j) } a w' := by
 obtain ⟨u, h1, ho⟩ := h.wr.obj id _ hl
 obtain ⟨xs, hown, hrl, hrr⟩ := hok_mk.1 ho
 rw [hτ] at h1; injection h1 with h1; subst h1
 have hmn := own_form hown
 subst hmn
 rcases hown.2 with ⟨h', _⟩ | ⟨g, cap, cur, hv, _, hg, hnc, hcm, hcs, htk⟩
 ·cases h'
 simp only [Value.slice.injEq, Option.some.injEq, Addr.mk.injEq, and_true, true_and] at hv
 obtain ⟨rfl, rfl⟩ := hv
 have hall : ∀ x ∈ v.cells.toList, x.oneCell' = true := by
  intro x hx
  obtain ⟨j, hj, rfl⟩ := List.getElem_of_mem hx
  have hj' : j < cs.length := by simpa [hsz] using hj
  have e := hrep j _ (List.getElem?_eq_getElem hj')
  have e2 : v.cells.getD j undef = v.cells.toList[j] := by
   have : j < v.cells.size := by omega
   simp [this]
  rw [e2] at e
  exact oneB_sound e (List.all_eq_true.1 hone _ (List.getElem_mem hj'))
 have hrow1 : (i + 1) * esz ≤ m * esz := Nat.mul_le_mul_right _ hi
 rw [Nat.add_mul, Nat.one_mul] at hrow1
 have hcap : m * esz ≤ cur.size := by rw [hcs]; exact Nat.mul_le_mul_right _ hnc
 have hrun := run_storeCells_at cx.P b (i * esz + off) e v.cells.toList 0 cur w hg (by simp [hsz]; omega) hall
 refine ⟨_, hrun, ?_⟩
 simp only [Nat.add_zero, Array.length_toList] at hrun ⊢
 generalize hnew : (cur.toList.take (i * esz + off) ++ v.cells.toList ++ cur.toList.drop (i * esz + off + v.cells.size)).toArray = c' at hrun ⊢
 have hw' : (w.setRow b c').heap[b]? = some (.cells c' e (0, 0)) := setRow_heap w b cur c' e _ hg
 have hother : ∀ k, k ≠ b → (w.setRow b c').heap[k]? = w.heap[k]? := fun k hk => by
  simp only [World.setRow, Array.getElem?_modify]; rw [if_neg (fun e => hk e.symm)]
 have hsize : (w.setRow b c').heap.size = w.heap.size := by simp [World.setRow]
 have htl := h.wr.tlt id _ b hτ rfl
 have hFb : ∀ k, F k → k ≠ b := fun k hk e => h.wr.fne k id _ hk hτ (by subst e; rfl)
 have hF : ∀ k, F k → (w.setRow b c').heap[k]? = w.heap[k]? := fun k hk => hother k (hFb k hk)
 have hmono : ∀ x u, Rep F w τ x u → Rep F (w.setRow b c') τ x u := fun x u hr => hr.mono (fun _ h => h) hF (fun _ _ h => h)
 have hmono0 : ∀ x u, Rep F w (rowτ r τ) x u → Rep F (w.setRow b c') (rowτ r' τ) x u := fun x u hr => by
  refine hr.mono (fun _ h => h) hF (fun k v hk => ?_)
  cases r with
  | false => cases hk
  | true => rw [hrr' rfl]; exact hk
 have hset : ∀ {nm' : Nm} {y : HO}, Has (setO s.heap id (HO.mk r' e esz m fun j => if j = i then (row i).take off ++ cs ++ (row i).drop (off + cs.length) else row j)) nm' y ↔ (nm' = id ∧ y = HO.mk r' e esz m fun j => if j = i then (row i).take off ++ cs ++ (row i).drop (off + cs.length) else row j) ∨ (nm' ≠ id ∧ Has s.heap nm' y) := by
  intro nm' y
  refine has_set hl (HO.mk_flat _ _ _ _ _) (HO.mk_flat _ _ _ _ _) (fun ⟨D, f, hlf⟩ => ?_)
  cases r with
  | true => rw [hrr' rfl]; rfl
  | false =>
   cases hr' : r' with
   | false => rfl
   | true => have := hrp rfl hr'; unfold notFam at this; rw [hlf] at this; cases this
 have hc's : c'.size = cur.size := by subst hnew; simp [hsz]; omega
 have hxs' : xs.length = m * esz := hown.1
 -- what the row holds now
 have hget : ∀ k, c'[k]? = if k < i * esz + off then cur[k]? else if k < i * esz + off + cs.length then v.cells[k - (i * esz + off)]? else cur[k]? := by
  intro k
  subst hnew
  simp only [List.getElem?_toArray]
  have hlen : (cur.toList.take (i * esz + off)).length = i * esz + off := by simp; omega
  by_cases k1 : k < i * esz + off
  ·rw [if_pos k1, List.append_assoc, List.getElem?_append_left (by omega), List.getElem?_take, if_pos k1]; simp
  ·rw [if_neg k1]
   by_cases k2 : k < i * esz + off + cs.length
   ·rw [if_pos k2, List.append_assoc, List.getElem?_append_right (by omega), List.getElem?_append_left (by simp [hlen, hsz]; omega), hlen]; simp
   ·have hlen2 : (cur.toList.take (i * esz + off) ++ v.cells.toList).length = i * esz + off + cs.length := by simp [hsz]; omega
    rw [if_neg k2, List.getElem?_append_right (by omega), hlen2, List.getElem?_drop, hsz, show i * esz + off + cs.length + (k - (i * esz + off + cs.length)) = k by omega]; simp
 refine ⟨⟨⟨h.wr.keeps.os, h.wr.keeps.tape, h.wr.keeps.output, by rw [hsize]; exact h.wr.keeps.size, fun k hk hx => ?_⟩, fun k hk => by rw [hsize]; exact h.wr.fz k hk, h.wr.fne, h.wr.fsub, h.wr.fsup, fun id v b hv hk => by rw [hsize]; exact h.wr.tlt id v b hv hk, h.wr.inj, fun id' o hl' => ?_, fun id' u hu => ?_, h.wr.old, h.wr.cxn⟩, h.size, h.defers, fun t x ht => ⟨(h.env t x ht).1, hmono _ _ (h.env t x ht).2⟩⟩
 ·rw [hother k (by rintro rfl; rcases htl.1 with h | h; omega; exact hx h)]; exact h.wr.keeps.block k hk hx
 ·rcases hset.1 hl' with ⟨e0, e1⟩ | ⟨hne, hl'⟩
  ·subst e0 e1
   refine ⟨_, hτ, hok_mk.2 ⟨(c'.toList.take (m * esz)), ⟨by simp; omega, .inr ⟨b, c, c', rfl, Nat.zero_le _, hw', hnc, hcm, by rw [hc's, hcs], rfl⟩⟩, fun k hk => ?_, fun k j x hk hx => ?_⟩⟩
   ·by_cases hki : k = i
    ·simp only [hki, if_true]
     have := hrl i hi
     simp; omega
    ·simp only [hki, if_false]; exact hrl k hk
   ·have hkrow : (k + 1) * esz ≤ m * esz := Nat.mul_le_mul_right _ hk
    rw [Nat.add_mul, Nat.one_mul] at hkrow
    have hgd : ∀ q, q < m * esz → (c'.toList.take (m * esz)).getD q undef = c'.getD q undef := fun q hq => by
     simp only [List.getD_eq_getElem?_getD, List.getElem?_take, if_pos hq, Array.getD_eq_getD_getElem?]; simp
    have hold : ∀ q, q < m * esz → cur.getD q undef = xs.getD q undef := fun q hq => by
     rw [← htk]; simp only [List.getD_eq_getElem?_getD, List.getElem?_take, if_pos hq, Array.getD_eq_getD_getElem?]; simp
    by_cases hki : k = i
    ·subst hki
     simp only [if_true] at hx
     have hlr := hrl k hk
     by_cases j1 : j < off
     ·rw [List.append_assoc, List.getElem?_append_left (by simp; omega), List.getElem?_take, if_pos j1] at hx
      have hlt : k * esz + j < m * esz := by omega
      rw [hgd _ hlt, Array.getD_eq_getD_getElem?, hget, if_pos (by omega), ← Array.getD_eq_getD_getElem?, hold _ hlt]
      exact hmono0 _ _ (hrr k j x hk hx)
     ·have hlen : ((row k).take off).length = off := by simp; omega
      by_cases j2 : j < off + cs.length
      ·rw [List.append_assoc, List.getElem?_append_right (by omega), List.getElem?_append_left (by omega), hlen] at hx
       have hlt : k * esz + j < m * esz := by omega
       rw [hgd _ hlt, Array.getD_eq_getD_getElem?, hget, if_neg (by omega), if_pos (by omega), ← Array.getD_eq_getD_getElem?, show k * esz + j - (k * esz + off) = j - off by omega]
       have r3 := (hrep (j - off) x hx).mono (w' := w.setRow b c') (fun _ h => h) hF (fun _ _ h => h)
       cases hr' : r' with
       | true => exact r3
       | false => exact r3.pure (pureL_at (hp hr') _ _ hx)
      ·have hlen2 : ((row k).take off ++ cs).length = off + cs.length := by simp; omega
       rw [List.getElem?_append_right (by omega), hlen2, List.getElem?_drop, show off + cs.length + (j - (off + cs.length)) = j by omega] at hx
       have hjl : j < esz := by have h1 : j < (row k).length := (List.getElem?_eq_some_iff.1 hx).1; omega
       have hlt : k * esz + j < m * esz := by omega
       rw [hgd _ hlt, Array.getD_eq_getD_getElem?, hget, if_neg (by omega), if_neg (by omega), ← Array.getD_eq_getD_getElem?, hold _ hlt]
       exact hmono0 _ _ (hrr k j x hk hx)
    ·simp only [hki, if_false] at hx
     have hjl : j < esz := by have h1 : j < (row k).length := (List.getElem?_eq_some_iff.1 hx).1; rw [hrl k hk] at h1; exact h1
     have hlt : k * esz + j < m * esz := by omega
     have hfar : k * esz + j < i * esz + off ∨ ¬ k * esz + j < i * esz + off + cs.length := by
      rcases Nat.lt_or_ge k i with hki' | hki'
      ·have : (k + 1) * esz ≤ i * esz := Nat.mul_le_mul_right _ hki'
       rw [Nat.add_mul, Nat.one_mul] at this; omega
      ·have : (i + 1) * esz ≤ k * esz := Nat.mul_le_mul_right _ (by omega)
       rw [Nat.add_mul, Nat.one_mul] at this; omega
     have hsame : c'[k * esz + j]? = cur[k * esz + j]? := by
      rw [hget]
      rcases hfar with hf | hf
      ·rw [if_pos hf]
      ·by_cases q : k * esz + j < i * esz + off
       ·rw [if_pos q]
       ·rw [if_neg q, if_neg hf]
     rw [hgd _ hlt, Array.getD_eq_getD_getElem?, hsame, ← Array.getD_eq_getD_getElem?, hold _ hlt]
     exact hmono0 _ _ (hrr k j x hk hx)
  ·obtain ⟨u, q1, q2⟩ := h.wr.obj id' o hl'
   refine ⟨u, q1, q2.mono (fun _ h => h) hF (fun _ _ h => h) fun b' hb' => hother b' ?_⟩
   rintro rfl
   exact hne (h.wr.inj id' id u _ b' q1 hτ hb' rfl)
 ·obtain ⟨o, ho⟩ := h.wr.dom id' u hu
  by_cases e0 : id' = id
  ·exact ⟨_, hset.2 (.inl ⟨e0, rfl⟩)⟩
  ·exact ⟨o, hset.2 (.inr ⟨e0, ho⟩)⟩
end Go.Abs
namespace Go.Abs
open Go Go.RowKit
set_option linter.unusedVariables false
theorem domP_of {h : List (Nat × HO)} {nm : Nm} {o : HO} (hh : Has h nm o) : domP h nm := by
 obtain ⟨x, h1, h2, h3⟩ := hh
 unfold domP
 rw [h1]
 cases x with
 | fam D f => exact h3
 | _ => exact (HO.at_flat (by rfl)).1 h2 |>.1
theorem has_of_dom {h : List (Nat × HO)} {nm : Nm} (hd : domP h nm) : ∃ o, Has h nm o := by
 unfold domP at hd
 cases hl : look h nm.id with
 | none => rw [hl] at hd; exact hd.elim
 | some x =>
  rw [hl] at hd
  cases x with
  | fam D f => exact ⟨_, _, hl, rfl, hd⟩
  | cells cs => exact ⟨_, _, hl, (HO.at_flat (o := .cells cs) rfl).2 ⟨hd, rfl⟩, trivial⟩
  | row e z n r => exact ⟨_, _, hl, (HO.at_flat (o := .row e z n r) rfl).2 ⟨hd, rfl⟩, trivial⟩
  | rows e z n r => exact ⟨_, _, hl, (HO.at_flat (o := .rows e z n r) rfl).2 ⟨hd, rfl⟩, trivial⟩
def sgN (σ : List (Nat × Nat)) (nm : Nm) : Nm := ⟨sg σ nm.id, nm.ix⟩
theorem sigL_get (σ : List (Nat × Nat)) : ∀ (cs : List AV) (j : Nat), (AV.sigL σ cs)[j]? = (cs[j]?).map (AV.sig σ)
 | [], j => by simp [AV.sigL]
 | x :: r, 0 => by simp [AV.sigL]
 | x :: r, j + 1 => by simp only [AV.sigL, List.getElem?_cons_succ]; exact sigL_get σ r j
theorem sigL_len (σ : List (Nat × Nat)) : ∀ (cs : List AV), (AV.sigL σ cs).length = cs.length
 | [] => rfl
 | x :: r => by simp [AV.sigL, sigL_len σ r]
theorem Rep.sig {F : Nat → Prop} {w : World} {τ τ' : Nm → Option Value} {σ : List (Nat × Nat)} {x : AV} {v : Value} (h : Rep F w τ x v) (hτ : ∀ nm u, τ nm = some u → τ' (sgN σ nm) = some u) : Rep F w τ' (x.sig σ) v := by
 have lst : ∀ (cs : List AV) (vs : Array Value), (∀ j c, cs[j]? = some c → Rep F w τ' (c.sig σ) (vs.getD j undef)) → ∀ (j : Nat) (c : AV), (AV.sigL σ cs)[j]? = some c → Rep F w τ' c (vs.getD j undef) := by
  intro cs vs h j c hc
  rw [sigL_get] at hc
  obtain ⟨y, hy, rfl⟩ := Option.map_eq_some_iff.1 hc
  exact h j y hy
 induction h generalizing τ' with
 | val τ v => exact .val _ v
 | any τ v => exact .any _ v
 | condT τ x v _ ih => exact .condT _ _ v (ih hτ lst)
 | condF τ x => exact .condF _ _
 | agg τ cs vs hl _ ih => exact .agg _ _ vs (by rw [sigL_len]; exact hl) (lst cs vs fun j c hc => ih j c hc hτ lst)
 | tup τ cs vs hl _ ih => exact .tup _ _ vs (by rw [sigL_len]; exact hl) (lst cs vs fun j c hc => ih j c hc hτ lst)
 | fn τ f cs vs hl _ ih => exact .fn _ f _ vs (by rw [sigL_len]; exact hl) (lst cs vs fun j c hc => ih j c hc hτ lst)
 | ro τ sz n row A c f h1 h2 h3 h4 h5 _ => exact .ro _ sz n row A c f h1 h2 h3 h4 h5
 | ptr τ cs b o f h1 h2 h3 _ => exact .ptr _ cs b o f h1 h2 h3
 | obj τ id off b hb => exact .obj _ _ off b (hτ id _ hb)
 | sl τ id n A m c hb hn hm hA => exact .sl _ _ n A m c (hτ id _ hb) hn hm hA
 | so τ id esz off n A m c Z hb hn hm hA hZ hZ2 => exact .so _ _ esz off n A m c Z (hτ id _ hb) hn hm hA hZ hZ2
 | rp τ id esz i off b m c hb => exact .rp _ _ esz i off b m c (hτ id _ hb)
mutual
theorem unsig {F : Nat → Prop} {w : World} {τ τ' : Nm → Option Value} {σ : List (Nat × Nat)} {p : Nm → Prop} (hτ : ∀ nm, p nm → ∀ u, τ (sgN σ nm) = some u → τ' nm = some u) : ∀ {x : AV} {v : Value}, AV.refsP p x → Rep F w τ (x.sig σ) v → Rep F w τ' x v
 | .val _, v, _, h => by cases h; exact .val _ _
 | .any, v, _, h => .any _ _
 | .cond g x, v, hp, h => by
  cases h with
  | condT _ _ _ h => exact .condT _ _ _ (unsig hτ hp h)
  | condF => exact .condF _ _
 | .agg cs, v, hp, h => by
  cases h with
  | agg _ _ vs hl h => exact .agg _ _ vs (by rw [sigL_len] at hl; exact hl) (unsigL hτ vs hp h)
 | .tup cs, v, hp, h => by
  cases h with
  | tup _ _ vs hl h => exact .tup _ _ vs (by rw [sigL_len] at hl; exact hl) (unsigL hτ vs hp h)
 | .fn f cs, v, hp, h => by
  cases h with
  | fn _ _ _ vs hl h => exact .fn _ f _ vs (by rw [sigL_len] at hl; exact hl) (unsigL hτ vs hp h)
 | .ro _ _ _, v, _, h => by
  cases h with
  | ro _ _ _ _ A c f h1 h2 h3 h4 h5 => exact .ro _ _ _ _ A c f h1 h2 h3 h4 h5
 | .ptr _, v, _, h => by
  cases h with
  | ptr _ _ b o f h1 h2 h3 => exact .ptr _ _ b o f h1 h2 h3
 | .obj id off, v, hp, h => by
  cases h with
  | obj _ _ _ b hb => exact .obj _ _ _ b (hτ id hp _ hb)
 | .sl id n, v, hp, h => by
  cases h with
  | sl _ _ _ A m c hb h1 h2 h3 => exact .sl _ _ _ A m c (hτ id hp _ hb) h1 h2 h3
 | .so id esz off n, v, hp, h => by
  cases h with
  | so _ _ _ _ _ A m c Z hb h1 h2 h3 h4 h5 => exact .so _ _ _ _ _ A m c Z (hτ id hp _ hb) h1 h2 h3 h4 h5
 | .rp id esz i off, v, hp, h => by
  cases h with
  | rp _ _ _ _ _ b m c hb => exact .rp _ _ _ _ _ b m c (hτ id hp _ hb)
theorem unsigL {F : Nat → Prop} {w : World} {τ τ' : Nm → Option Value} {σ : List (Nat × Nat)} {p : Nm → Prop} (hτ : ∀ nm, p nm → ∀ u, τ (sgN σ nm) = some u → τ' nm = some u) (vs : Array Value) : ∀ {cs : List AV}, AV.refsPL p cs → (∀ (j : Nat) (c : AV), (AV.sigL σ cs)[j]? = some c → Rep F w τ c (vs.getD j undef)) → ∀ (j : Nat) (c : AV), cs[j]? = some c → Rep F w τ' c (vs.getD j undef)
 | [], _, _, j, c, h => by simp at h
 | x :: r, hp, h, 0, c, hc => by
  simp at hc; subst hc
  exact unsig hτ hp.1 (h 0 _ rfl)
 | x :: r, hp, h, j + 1, c, hc => by
  have := unsigL hτ (vs.extract 1 vs.size) hp.2 (fun j c hc => by
   have := h (j + 1) c (by simpa [AV.sigL] using hc)
   have e : (vs.extract 1 vs.size).getD j undef = vs.getD (j + 1) undef := by
    simp only [Array.getD_eq_getD_getElem?, Array.getElem?_extract]
    split
    ·rw [Nat.add_comm]
    ·rename_i hh
     rw [Array.getElem?_eq_none (by omega)]
   rw [e]; exact this) j c (by simpa using hc)
  have e : (vs.extract 1 vs.size).getD j undef = vs.getD (j + 1) undef := by
   simp only [Array.getD_eq_getD_getElem?, Array.getElem?_extract]
   split
   ·rw [Nat.add_comm]
   ·rename_i hh
    rw [Array.getElem?_eq_none (by omega)]
  rw [e] at this; exact this
end
theorem HOk.sig {F : Nat → Prop} {w : World} {τ τ' : Nm → Option Value} {σ : List (Nat × Nat)} {o : HO} {v : Value} (h : HOk F w τ o v) (hτ : ∀ nm u, τ nm = some u → τ' (sgN σ nm) = some u) : HOk F w τ' (o.sig σ) v := by
 cases o with
 | cells cs =>
  obtain ⟨b, c, ty, rfl, r1, r2, r3⟩ := h
  refine ⟨b, c, ty, rfl, r1, by rw [sigL_len]; exact r2, fun j x hx => ?_⟩
  rw [sigL_get] at hx
  obtain ⟨y, hy, rfl⟩ := Option.map_eq_some_iff.1 hx
  exact (r3 j y hy).sig hτ
 | row e esz n row => exact h
 | rows e esz n row =>
  obtain ⟨xs, r1, r2, r3⟩ := h
  refine ⟨xs, r1, fun i hi => by rw [sigL_len]; exact r2 i hi, fun i j x hi hx => ?_⟩
  rw [sigL_get] at hx
  obtain ⟨y, hy, rfl⟩ := Option.map_eq_some_iff.1 hx
  exact (r3 i j y hi hy).sig hτ
 | fam D f => exact h.elim
theorem HOk.unsig {F : Nat → Prop} {w : World} {τ τ' : Nm → Option Value} {σ : List (Nat × Nat)} {p : Nm → Prop} (hτ : ∀ nm, p nm → ∀ u, τ (sgN σ nm) = some u → τ' nm = some u) {o : HO} {v : Value} (hp : o.refsP p) (h : HOk F w τ (o.sig σ) v) : HOk F w τ' o v := by
 cases o with
 | cells cs =>
  obtain ⟨b, c, ty, rfl, r1, r2, r3⟩ := h
  exact ⟨b, c, ty, rfl, r1, by rw [sigL_len] at r2; exact r2, unsigL hτ c hp r3⟩
 | row e esz n row => exact h
 | rows e esz n row =>
  obtain ⟨xs, r1, r2, r3⟩ := h
  refine ⟨xs, r1, fun i hi => by have := r2 i hi; rw [sigL_len] at this; exact this, fun i j x hi hx => ?_⟩
  have := unsigL hτ (xs.drop (i * esz)).toArray (hp i hi) (fun j x hx => by
   have := r3 i j x hi hx
   simpa [Array.getD_eq_getD_getElem?, List.getD_eq_getElem?_getD, List.getElem?_drop] using this) j x hx
  simpa [Array.getD_eq_getD_getElem?, List.getD_eq_getElem?_getD, List.getElem?_drop] using this
 | fam D f => exact h.elim
theorem keep_rep2 {F : Nat → Prop} {w : World} {τ τ' : Nm → Option Value} {p : Nm → Bool} (hτ : ∀ id, p id = true → ∀ u, τ id = some u → τ' id = some u) {x : AV} {v : Value} (h : Rep F w τ x v) : Rep F w τ' (x.keep p) v := by
 let τm : Nm → Option Value := fun id => if p id = true then τ id else none
 have h1 : Rep F w τm (x.keep p) v := keep_rep (τ' := τm) (fun id hp => if_pos hp) h
 refine h1.mono (fun _ h => h) (fun _ _ => rfl) (fun id u hu => ?_)
 have hu : (if p id = true then τ id else none) = some u := hu
 split at hu
 ·exact hτ id (by assumption) u hu
 ·cases hu
theorem keep_hok2 {F : Nat → Prop} {w : World} {τ τ' : Nm → Option Value} {p : Nm → Bool} (hτ : ∀ id, p id = true → ∀ u, τ id = some u → τ' id = some u) {o : HO} {v : Value} (h : HOk F w τ o v) : HOk F w τ' (o.keep p) v := by
 let τm : Nm → Option Value := fun id => if p id = true then τ id else none
 have h1 : HOk F w τm (o.keep p) v := keep_hok (τ' := τm) (fun id hp => if_pos hp) h
 refine h1.mono (fun _ h => h) (fun _ _ => rfl) (fun id u hu => ?_) (fun _ _ => rfl)
 have hu : (if p id = true then τ id else none) = some u := hu
 split at hu
 ·exact hτ id (by assumption) u hu
 ·cases hu
theorem sig_at (σ : List (Nat × Nat)) (o : HO) (ix : List Nat) : (o.sig σ).at_ ix = (o.at_ ix).map (HO.sig σ) := by
 cases o <;> cases ix <;> rfl
theorem sig_in (σ : List (Nat × Nat)) (o : HO) (ix : List Nat) : (o.sig σ).in_ ix ↔ o.in_ ix := by
 cases o <;> exact Iff.rfl
theorem look_append {α : Type} : ∀ (a b : List (Nat × α)) (t : Nat), look (a ++ b) t = match look a t with | some x => some x | none => look b t
 | [], b, t => rfl
 | (k, v) :: r, b, t => by
  simp only [List.cons_append, look_cons]
  split
  ·rfl
  ·exact look_append r b t
theorem look_filterP {α : Type} (p : Nat → Bool) : ∀ (l : List (Nat × α)) (t : Nat), look (l.filter fun x => p x.1) t = if p t = true then look l t else none
 | [], t => by simp [look]
 | (k, v) :: r, t => by
  rw [List.filter_cons]
  by_cases hk : p k = true
  ·simp only [hk, if_true, look_cons, look_filterP p r t]
   by_cases e : t = k
   ·subst e; simp [hk]
   ·simp [e]
  ·simp only [hk, if_false, look_filterP p r t, look_cons, Bool.false_eq_true]
   by_cases e : t = k
   ·subst e; simp [hk]
   ·simp [e]
theorem look_mem {α : Type} : ∀ {l : List (Nat × α)} {k : Nat} {x : α}, look l k = some x → (k, x) ∈ l
 | [], _, _, h => by cases h
 | (j, v) :: r, k, x, h => by
  rw [look_cons] at h
  split at h
  ·rename_i e; subst e; injection h with h; subst h; exact List.mem_cons_self ..
  ·exact List.mem_cons_of_mem _ (look_mem h)
theorem look_isSome {α : Type} : ∀ {l : List (Nat × α)} {k : Nat}, (look l k).isSome = true ↔ k ∈ l.map (·.1)
 | [], k => by simp [look]
 | (j, v) :: r, k => by
  rw [look_cons]
  by_cases e : k = j
  ·simp [e]
  ·simp only [e, if_false, look_isSome (l := r), List.map_cons, List.mem_cons, false_or]
theorem nodupB_inj {f : Nat → Nat} : ∀ {l : List Nat}, nodupB (l.map f) = true → ∀ a ∈ l, ∀ b ∈ l, f a = f b → a = b
 | [], _, a, h, _, _, _ => by cases h
 | x :: r, h, a, ha, b, hb, e => by
  simp only [List.map_cons, nodupB, Bool.and_eq_true, Bool.not_eq_true'] at h
  have hx : ∀ y ∈ r, f x ≠ f y := fun y hy e => by
   have : (r.map f).elem (f x) = true := by rw [List.elem_eq_mem]; exact decide_eq_true (by rw [e]; exact List.mem_map_of_mem hy)
   rw [this] at h; cases h.1
  rcases List.mem_cons.1 ha with rfl | ha <;> rcases List.mem_cons.1 hb with rfl | hb
  ·rfl
  ·exact absurd e (hx b hb)
  ·exact absurd e.symm (hx a (by assumption))
  ·exact nodupB_inj h.2 a ha b hb e
theorem look_sigH {σ : List (Nat × Nat)} : ∀ {h : List (Nat × HO)} {k : Nat}, (∀ a ∈ h.map (·.1), sg σ a = sg σ k → a = k) → look (sigH σ h) (sg σ k) = (look h k).map (HO.sig σ)
 | [], k, _ => rfl
 | (j, v) :: r, k, hi => by
  simp only [sigH, List.map_cons, look_cons]
  by_cases e : k = j
  ·subst e; simp
  ·have : ¬ sg σ k = sg σ j := fun e2 => e ((hi j (by simp) e2.symm).symm)
   simp only [this, if_false, e]
   exact look_sigH (h := r) fun a ha => hi a (by simp [List.map_cons]; exact .inr (by simpa using ha))
theorem look_sigH_some {σ : List (Nat × Nat)} : ∀ {h : List (Nat × HO)} {j : Nat} {o : HO}, look (sigH σ h) j = some o → ∃ k, k ∈ h.map (·.1) ∧ sg σ k = j
 | [], j, o, h => by cases h
 | (k, v) :: r, j, o, h => by
  simp only [sigH, List.map_cons, look_cons] at h
  split at h
  ·rename_i e; exact ⟨k, by simp, e.symm⟩
  ·obtain ⟨k', h1, h2⟩ := look_sigH_some (h := r) h
   exact ⟨k', by simp [List.map_cons]; exact .inr (by simpa using h1), h2⟩
theorem allAt_look {h : List (Nat × HO)} : ∀ {l : List (Nat × HO)}, AllAt h l → ∀ {k : Nat} {o : HO}, (k, o) ∈ l → look h k = some o
 | [], _, _, _, hm => by cases hm
 | (j, v) :: r, ha, k, o, hm => by
  rcases List.mem_cons.1 hm with e | hm
  ·injection e with e1 e2; subst e1 e2; exact ha.1
  ·exact allAt_look ha.2 hm
theorem heapRefs_at {p : Nm → Prop} : ∀ {h : List (Nat × HO)}, heapRefs p h → ∀ {k : Nat} {o : HO}, look h k = some o → o.refsP p
 | [], _, _, _, hl => by cases hl
 | (j, v) :: r, hr, k, o, hl => by
  rw [look_cons] at hl
  split at hl
  ·injection hl with hl; subst hl; exact hr.1
  ·exact heapRefs_at hr.2 hl
theorem refsP_at {p : Nm → Prop} {x o : HO} {ix : List Nat} (h : x.refsP p) (ha : x.at_ ix = some o) (hi : x.in_ ix) : o.refsP p := by
 cases x with
 | fam D f => simp only [HO.at_, Option.some.injEq] at ha; subst ha; exact h ix hi
 | cells cs => obtain ⟨_, rfl⟩ := (HO.at_flat (o := .cells cs) rfl).1 ha; exact h
 | row e z n r => obtain ⟨_, rfl⟩ := (HO.at_flat (o := .row e z n r) rfl).1 ha; exact h
 | rows e z n r => obtain ⟨_, rfl⟩ := (HO.at_flat (o := .rows e z n r) rfl).1 ha; exact h
theorem keptDom_at {post : List (Nat × HO)} : ∀ {h : List (Nat × HO)}, keptDom post h → ∀ {nm : Nm}, domP h nm → (look post nm.id).isSome = true → domP post nm
 | [], _, nm, hd, _ => hd.elim
 | (j, v) :: r, hk, nm, hd, hs => by
  unfold domP at hd
  rw [look_cons] at hd
  by_cases e : nm.id = j
  ·subst e
   simp only [if_true] at hd
   have h1 := hk.1
   obtain ⟨y, hy⟩ := Option.isSome_iff_exists.1 hs
   rw [hy] at h1
   unfold domP
   rw [hy]
   cases y <;> cases v <;> first | exact h1.elim | exact h1 _ hd | exact hd
  ·simp only [e, if_false] at hd
   exact keptDom_at hk.2 hd hs
end Go.Abs
namespace Go.Abs
open Go Go.RowKit
set_option linter.unusedVariables false
theorem blt_lt0 {a b : Nat} (h : Nat.blt a b = true) : a < b := by simpa [Nat.blt_eq] using h
theorem RelA.lendT {P : Program} {cx τ F s a w} (h : RelA cx τ F s a w) {args : List AV} {pre : List (Nat × HO)} {R : AV → List (Nat × HO) → Prop} (hcl1 : heapRefs (domP pre) pre) (hcl3 : ∀ res post, R res post → keptDom post pre) {σ : List (Nat × Nat)} (hall : AllAt s.heap (sigH σ pre)) (hpre : sigPre σ pre = true) (hsok : ∀ res post, R res post → sigOK s σ ⟨args, pre, res, post⟩ = true) {d : Nat} (hd : d < cx.n) :
  ∃ τ1, RelW (cxM P 0 F τ1 w) τ1 F ⟨[], pre⟩ w ∧ (∀ b, ownB τ1 b → ownB τ b) ∧ (∀ {x : AV} {v : Value}, AV.refsP (domP pre) x → Rep F w τ (x.sig σ) v → Rep F w τ1 x v) ∧
   ∀ w' v F' τ' res post, R res post → RelW (cxM P 0 F τ1 w) τ' F' ⟨[], post⟩ w' → Rep F' w' τ' res v → ∃ τ2, RelA cx τ2 F' (s.after σ ⟨args, pre, res, post⟩ d) (a.put (some d) v) w' := by
 have inPre : ∀ k, k ∈ pre.map (·.1) ↔ (look pre k).isSome = true := fun k => look_isSome.symm
 have injP : ∀ a b, a ∈ pre.map (·.1) → b ∈ pre.map (·.1) → sg σ a = sg σ b → a = b := fun a b ha hb e => nodupB_inj hpre a ha b hb e
 have hasPre : ∀ nm o, Has pre nm o → Has s.heap (sgN σ nm) (o.sig σ) ∧ o.refsP (domP pre) ∧ nm.id ∈ pre.map (·.1) := fun nm o ho => by
  obtain ⟨x, h1, h2, h3⟩ := ho
  have hin : nm.id ∈ pre.map (·.1) := (inPre _).2 (by rw [h1]; rfl)
  have hm : (sg σ nm.id, x.sig σ) ∈ sigH σ pre := List.mem_map.2 ⟨_, look_mem h1, rfl⟩
  refine ⟨⟨x.sig σ, allAt_look hall hm, by rw [sig_at]; show (x.at_ nm.ix).map _ = _; rw [h2]; rfl, (sig_in _ _ _).2 h3⟩, refsP_at (heapRefs_at hcl1 h1) h2 h3, hin⟩
 -- what the callee is lent
 let τ1 : Nm → Option Value := fun nm => open Classical in if domP pre nm then τ (sgN σ nm) else none
 have t1 : ∀ nm, domP pre nm → τ1 nm = τ (sgN σ nm) := fun nm hn => if_pos hn
 have t1' : ∀ nm u, τ1 nm = some u → domP pre nm ∧ τ (sgN σ nm) = some u := fun nm u hu => by
  have hu : (open Classical in if domP pre nm then τ (sgN σ nm) else none) = some u := hu
  split at hu
  ·exact ⟨by assumption, hu⟩
  ·cases hu
 have domIn : ∀ nm, domP pre nm → nm.id ∈ pre.map (·.1) := fun nm hn => by
  obtain ⟨o, ho⟩ := has_of_dom hn
  exact (hasPre nm o ho).2.2
 have ownL : ∀ b, ownB τ1 b → ∃ nm u, domP pre nm ∧ τ (sgN σ nm) = some u ∧ hblk u = some b := fun b ⟨nm, u, h1, h2⟩ => ⟨nm, u, (t1' nm u h1).1, (t1' nm u h1).2, h2⟩
 have hunsig : ∀ {x : AV} {v : Value}, AV.refsP (domP pre) x → Rep F w τ (x.sig σ) v → Rep F w τ1 x v := fun hp hr => unsig (p := domP pre) (fun nm hn u hu => by rw [t1 nm hn]; exact hu) hp hr
 have rel1 : RelW (cxM P 0 F τ1 w) τ1 F ⟨[], pre⟩ w := by
  refine ⟨Keeps.refl _ _, h.wr.fz, fun k nm v hk hv => h.wr.fne k _ v hk (t1' nm v hv).2, fun k hk => .inl hk, fun k hk => hk, fun nm v b hv hb => ⟨.inr ⟨nm, v, hv, hb⟩, (h.wr.tlt _ v b (t1' nm v hv).2 hb).2⟩, fun nm nm' v v' b hv hv' hb hb' => ?_, fun nm o ho => ?_, fun nm v hv => has_of_dom (t1' nm v hv).1, fun nm v _ hv => hv, Nat.zero_le _⟩
  ·have e := h.wr.inj _ _ v v' b (t1' nm v hv).2 (t1' nm' v' hv').2 hb hb'
   have e1 : sg σ nm.id = sg σ nm'.id := congrArg Nm.id e
   have e2 : nm.ix = nm'.ix := by have := congrArg Nm.ix e; exact this
   have e3 := injP _ _ (domIn nm (t1' nm v hv).1) (domIn nm' (t1' nm' v' hv').1) e1
   cases nm; cases nm'; simp only at e2 e3; rw [e2, e3]
  ·obtain ⟨h1, h2, h3⟩ := hasPre nm o ho
   obtain ⟨v, q1, q2⟩ := h.wr.obj _ _ h1
   refine ⟨v, by rw [t1 nm (domP_of ho)]; exact q1, HOk.unsig (p := domP pre) (fun nm hn u hu => by rw [t1 nm hn]; exact hu) h2 q2⟩
 refine ⟨τ1, rel1, fun b hb => by obtain ⟨nm, u, _, q2, q3⟩ := ownL b hb; exact ⟨_, u, q2, q3⟩, hunsig, fun w' v F' τ' res post hRr hr' hv => ?_⟩
 have hok := hsok res post hRr
 have hcl3 := hcl3 res post hRr
 simp only [sigOK, Bool.and_eq_true] at hok
 obtain ⟨⟨⟨⟨⟨⟨⟨k0, k1⟩, k2⟩, k3⟩, k4⟩, k5⟩, k6⟩, k7⟩ := hok
 have inPost : ∀ k, k ∈ post.map (·.1) ↔ (look post k).isSome = true := fun k => look_isSome.symm
 have memIds : ∀ k, k ∈ pre.map (·.1) ∨ k ∈ post.map (·.1) → k ∈ pre.map (·.1) ++ (post.map (·.1)).filter fun k => !(pre.map (·.1)).elem k := fun k hk => by
  by_cases e : k ∈ pre.map (·.1)
  ·exact List.mem_append_left _ e
  ·refine List.mem_append_right _ (List.mem_filter.2 ⟨hk.resolve_left e, ?_⟩)
   simpa [List.elem_eq_mem] using e
 have inj : ∀ a b, (a ∈ pre.map (·.1) ∨ a ∈ post.map (·.1)) → (b ∈ pre.map (·.1) ∨ b ∈ post.map (·.1)) → sg σ a = sg σ b → a = b := fun a b ha hb e =>
  nodupB_inj k1 a (memIds a ha) b (memIds b hb) e
 -- the caller's names behind the call
 let back : List (Nat × Nat) := post.map fun x => (sg σ x.1, x.1)
 have back_at : ∀ k, k ∈ post.map (·.1) → look back (sg σ k) = some k := by
  intro k hk
  have : ∀ l : List (Nat × HO), (∀ x ∈ l, x.1 ∈ post.map (·.1)) → k ∈ l.map (·.1) → look (l.map fun x => (sg σ x.1, x.1)) (sg σ k) = some k := by
   intro l
   induction l with
   | nil => intro _ h; simp at h
   | cons x r ih =>
    intro hsub hm
    simp only [List.map_cons, look_cons]
    by_cases e : sg σ k = sg σ x.1
    ·rw [if_pos e, inj k x.1 (.inr hk) (.inr (hsub x (List.mem_cons_self ..))) e]
    ·rw [if_neg e]
     refine ih (fun y hy => hsub y (List.mem_cons_of_mem _ hy)) ?_
     rw [List.map_cons, List.mem_cons] at hm
     exact hm.resolve_left fun e2 => e (by rw [e2])
  exact this post (fun x hx => List.mem_map_of_mem hx) hk
 have back_some : ∀ j k, look back j = some k → k ∈ post.map (·.1) ∧ sg σ k = j := by
  intro j k hk
  obtain ⟨x, hx, e⟩ := List.mem_map.1 (look_mem hk)
  injection e with e1 e2
  subst e1 e2
  exact ⟨List.mem_map_of_mem hx, rfl⟩
 let pre' := pre.map fun x => sg σ x.1
 let post' := post.map fun x => sg σ x.1
 have pre_iff : ∀ j, pre'.elem j = true ↔ ∃ k, k ∈ pre.map (·.1) ∧ sg σ k = j := fun j => by
  rw [List.elem_eq_mem, decide_eq_true_iff]
  constructor
  ·intro hm; obtain ⟨x, hx, e⟩ := List.mem_map.1 hm; exact ⟨x.1, List.mem_map_of_mem hx, e⟩
  ·rintro ⟨k, hk, e⟩; obtain ⟨x, hx, e2⟩ := List.mem_map.1 hk; exact List.mem_map.2 ⟨x, hx, by rw [e2]; exact e⟩
 let τ2 : Nm → Option Value := fun nm => match look back nm.id with
  | some k => τ' ⟨k, nm.ix⟩
  | none => if pre'.elem nm.id = true then none else τ nm
 have t2a : ∀ nm k, look back nm.id = some k → τ2 nm = τ' ⟨k, nm.ix⟩ := fun nm k hk => by show (match look back nm.id with | some k => _ | none => _) = _; rw [hk]
 have t2b : ∀ nm, look back nm.id = none → τ2 nm = if pre'.elem nm.id = true then none else τ nm := fun nm hk => by show (match look back nm.id with | some k => _ | none => _) = _; rw [hk]
 -- two kinds of names
 have kinds : ∀ nm u, τ2 nm = some u → (∃ k, look back nm.id = some k ∧ τ' ⟨k, nm.ix⟩ = some u) ∨ (look back nm.id = none ∧ pre'.elem nm.id = false ∧ τ nm = some u) := fun nm u hu => by
  cases hb : look back nm.id with
  | some k => rw [t2a nm k hb] at hu; exact .inl ⟨k, rfl, hu⟩
  | none =>
   rw [t2b nm hb] at hu
   split at hu
   ·cases hu
   ·rename_i hp; exact .inr ⟨rfl, by simpa using hp, hu⟩
 have apart : ∀ nm u b, pre'.elem nm.id = false → τ nm = some u → hblk u = some b → ¬ ownB τ1 b := fun nm u b hp hu hb ho => by
  obtain ⟨nm1, u1, q1, q2, q3⟩ := ownL b ho
  have e := h.wr.inj nm _ u u1 b hu q2 hb q3
  have : pre'.elem nm.id = true := (pre_iff _).2 ⟨nm1.id, domIn nm1 q1, by rw [e]; rfl⟩
  rw [this] at hp; cases hp
 have old1 : ∀ b, ownB τ1 b → (cx.w.heap.size ≤ b ∨ cx.X b) := fun b ho => by
  obtain ⟨nm1, u1, q1, q2, q3⟩ := ownL b ho
  exact (h.wr.tlt _ u1 b q2 q3).1
 have hkeep : Keeps (ownB τ1) w w' := hr'.keeps
 have hFb : ∀ k, F k → w'.heap[k]? = w.heap[k]? := fun k hk => hkeep.block k (h.wr.fz k hk) fun ho => by
  obtain ⟨nm1, u1, q1, q2, q3⟩ := ownL k ho
  exact h.wr.fne k _ u1 hk q2 q3
 have hkept : ∀ nm u, τ2 nm = some u ∨ τ nm = some u → (((pre.map fun x => sg σ x.1).filter fun k => !(post.map fun x => sg σ x.1).elem k).elem nm.id) = false → τ nm = some u → τ2 nm = some u := by
  intro nm u _ hlost hu
  cases hb : look back nm.id with
  | none =>
   rw [t2b nm hb]
   by_cases hp : pre'.elem nm.id = true
   ·exfalso
    have hnp : post'.elem nm.id = false := by
     cases hq : post'.elem nm.id with
     | false => rfl
     | true =>
      rw [List.elem_eq_mem, decide_eq_true_iff] at hq
      obtain ⟨x, hx, e⟩ := List.mem_map.1 hq
      have := back_at x.1 (List.mem_map_of_mem hx)
      rw [e, hb] at this; cases this
    have : (((pre.map fun x => sg σ x.1).filter fun k => !(post.map fun x => sg σ x.1).elem k).elem nm.id) = true := by
     rw [List.elem_eq_mem, decide_eq_true_iff, List.mem_filter]
     rw [List.elem_eq_mem, decide_eq_true_iff] at hp
     exact ⟨hp, by show (!post'.elem nm.id) = true; rw [hnp]; rfl⟩
    rw [this] at hlost; cases hlost
   ·rw [if_neg hp]; exact hu
  | some k =>
   obtain ⟨hk1, hk2⟩ := back_some _ _ hb
   rw [t2a nm k hb]
   -- the name is there: it was lent, and has come back
   obtain ⟨o, ho⟩ := h.wr.dom nm u hu
   have hkp : k ∈ pre.map (·.1) := by
    obtain ⟨x, hx, hxe⟩ := List.mem_map.1 hk1
    have hk6 : ∀ l : List (Nat × HO), NoneAt s.heap ((pre.map (·.1)).map (sg σ)) l = true → ∀ y ∈ l, ((pre.map (·.1)).map (sg σ)).elem y.1 = true ∨ look s.heap y.1 = none := by
     intro l
     induction l with
     | nil => intro _ y hy; cases hy
     | cons z r ih =>
      intro hl y hy
      simp only [NoneAt, Bool.and_eq_true, Bool.or_eq_true, Option.isNone_iff_eq_none] at hl
      rcases List.mem_cons.1 hy with rfl | hy
      ·exact hl.1
      ·exact ih hl.2 y hy
    rcases hk6 _ k6 (sg σ x.1, x.2.sig σ) (List.mem_map.2 ⟨x, hx, rfl⟩) with hq | hq
    ·rw [List.elem_eq_mem, decide_eq_true_iff] at hq
     obtain ⟨k', hk', e⟩ := List.mem_map.1 hq
     simp only at e
     rw [hxe] at e
     rw [← inj k' k (.inl hk') (.inr hk1) e]; exact hk'
    ·simp only at hq
     rw [hxe, hk2] at hq
     have := ho.isSome
     rw [hq] at this; cases this
   have hdom : domP pre ⟨k, nm.ix⟩ := by
    obtain ⟨x, hx, hxe⟩ := List.mem_map.1 hkp
    have hlk : ∃ y, look pre k = some y := Option.isSome_iff_exists.1 ((inPre k).1 hkp)
    obtain ⟨y, hy⟩ := hlk
    have hm : (sg σ k, y.sig σ) ∈ sigH σ pre := List.mem_map.2 ⟨_, look_mem hy, rfl⟩
    have hls := allAt_look hall hm
    obtain ⟨z, g1, g2, g3⟩ := ho
    rw [← hk2, hls] at g1; injection g1 with g1; subst g1
    have : ∃ o0, Has pre ⟨k, nm.ix⟩ o0 := by
     rw [sig_at] at g2
     obtain ⟨o0, g2, _⟩ := Option.map_eq_some_iff.1 g2
     exact ⟨o0, y, hy, g2, (sig_in _ _ _).1 g3⟩
    obtain ⟨o0, h0⟩ := this
    exact domP_of h0
   have hpd : domP post ⟨k, nm.ix⟩ := keptDom_at hcl3 hdom ((inPost k).1 hk1)
   obtain ⟨o', ho'⟩ := has_of_dom hpd
   obtain ⟨v', q1, _⟩ := hr'.obj _ _ ho'
   have h1000 : 1000 ≤ k := by
    have := List.all_eq_true.1 k4 k hkp
    exact Nat.le_of_ble_eq_true this
   have q2 := hr'.old ⟨k, nm.ix⟩ v' h1000 q1
   have q3 : τ1 ⟨k, nm.ix⟩ = some v' := q2
   have e := (t1' _ _ q3).2
   have e2 : sgN σ ⟨k, nm.ix⟩ = nm := by cases nm; simp only [sgN] at hk2 ⊢; rw [hk2]
   rw [e2, hu] at e
   injection e with e; subst e; exact q1
 have hlater : ∀ (τq : Nm → Option Value) x z, Rep F w τq x z → Rep F' w' τq x z := fun τq x z hr => hr.mono hr'.fsup hFb (fun _ _ h => h)
 refine ⟨τ2, ⟨?_, hr'.fz, fun k nm u hFk hu hb => ?_, fun k hk => ?_, fun k hk => hr'.fsup k (h.wr.fsup k hk), fun nm u b hu hb => ?_, fun nm nm' u u' b hu hu' hb hb' => ?_, fun nm o ho => ?_, fun nm u hu => ?_, fun nm u ho hu => ?_, h.wr.cxn⟩, by simp [Act.put, h.size], by simp [Act.put, h.defers], fun t y ht => ?_⟩
 ·refine ⟨hkeep.os.trans h.wr.keeps.os, hkeep.tape.trans h.wr.keeps.tape, hkeep.output.trans h.wr.keeps.output, Nat.le_trans h.wr.keeps.size hkeep.size, fun k hk hx => ?_⟩
  rw [hkeep.block k (Nat.lt_of_lt_of_le hk h.wr.keeps.size) fun ho => (old1 k ho).elim (fun h => by omega) hx]
  exact h.wr.keeps.block k hk hx
 ·rcases kinds nm u hu with ⟨k', _, hu⟩ | ⟨_, hp, hu⟩
  ·exact hr'.fne k _ u hFk hu hb
  ·rcases hr'.fsub k hFk with hk | hk | hk
   ·exact h.wr.fne k nm u hk hu hb
   ·have := (h.wr.tlt nm u k hu hb).2
    have hk : w.heap.size ≤ k := hk
    omega
   ·exact apart nm u k hp hu hb hk
 ·rcases hr'.fsub k hk with hk | hk | hk
  ·exact h.wr.fsub k hk
  ·exact .inr (.inl (Nat.le_trans h.wr.keeps.size hk))
  ·exact .inr (old1 k hk)
 ·rcases kinds nm u hu with ⟨k', _, hu⟩ | ⟨_, hp, hu⟩
  ·obtain ⟨q1, q2⟩ := hr'.tlt _ u b hu hb
   refine ⟨?_, q2⟩
   rcases q1 with q1 | q1
   ·exact .inl (Nat.le_trans h.wr.keeps.size q1)
   ·exact old1 b q1
  ·exact ⟨(h.wr.tlt nm u b hu hb).1, Nat.lt_of_lt_of_le (h.wr.tlt nm u b hu hb).2 hkeep.size⟩
 ·rcases kinds nm u hu with ⟨k1', b1, hu⟩ | ⟨b1, hp, hu⟩ <;> rcases kinds nm' u' hu' with ⟨k2', b2, hu'⟩ | ⟨b2, hp', hu'⟩
  ·have e := hr'.inj _ _ u u' b hu hu' hb hb'
   have e1 : k1' = k2' := congrArg Nm.id e
   have e2 : nm.ix = nm'.ix := by have := congrArg Nm.ix e; exact this
   have q1 := (back_some _ _ b1).2
   have q2 := (back_some _ _ b2).2
   cases nm; cases nm'; simp only at e2 q1 q2; rw [← q1, ← q2, e1, e2]
  ·exfalso
   rcases (hr'.tlt _ u b hu hb).1 with q | q
   ·have := (h.wr.tlt nm' u' b hu' hb').2
    have q : w.heap.size ≤ b := q
    omega
   ·exact apart nm' u' b hp' hu' hb' q
  ·exfalso
   rcases (hr'.tlt _ u' b hu' hb').1 with q | q
   ·have := (h.wr.tlt nm u b hu hb).2
    have q : w.heap.size ≤ b := q
    omega
   ·exact apart nm u b hp hu hb q
  ·exact h.wr.inj nm nm' u u' b hu hu' hb hb'
 ·obtain ⟨x, g1, g2, g3⟩ := ho
  simp only [St.after] at g1
  rw [look_append] at g1
  cases hp : look (sigH σ post) nm.id with
  | some y =>
   rw [hp] at g1; simp only [Option.some.injEq] at g1; subst g1
   obtain ⟨k, hk1, hk2⟩ := look_sigH_some hp
   have hls : look (sigH σ post) nm.id = (look post k).map (HO.sig σ) := by
    rw [← hk2]; exact look_sigH fun a ha e => inj a k (.inr ha) (.inr hk1) e
   rw [hp] at hls
   obtain ⟨y0, hy0, rfl⟩ := Option.map_eq_some_iff.1 hls.symm
   rw [sig_at] at g2
   obtain ⟨o0, g2', rfl⟩ := Option.map_eq_some_iff.1 g2
   have hh : Has post ⟨k, nm.ix⟩ o0 := ⟨y0, hy0, g2', (sig_in _ _ _).1 g3⟩
   obtain ⟨v', q1, q2⟩ := hr'.obj _ _ hh
   have hbk : look back nm.id = some k := by rw [← hk2]; exact back_at k hk1
   refine ⟨v', by rw [t2a nm k hbk]; exact q1, q2.sig fun nm1 u1 hu1 => ?_⟩
   have hd1 := hr'.dom nm1 u1 hu1
   obtain ⟨o1, ho1⟩ := hd1
   have : look back (sgN σ nm1).id = some nm1.id := back_at nm1.id ((inPost _).2 ho1.isSome)
   rw [t2a _ _ this]; exact hu1
  | none =>
   rw [hp] at g1
   simp only at g1
   rw [look_map (fun o : HO => o.keep fun nm => !((pre.map fun x => sg σ x.1).filter fun k => !(post.map fun x => sg σ x.1).elem k).elem nm.id), look_filterP fun k => !(pre.map fun x => sg σ x.1).elem k] at g1
   split at g1
   ·rename_i hnp
    obtain ⟨x0, hx0, rfl⟩ := Option.map_eq_some_iff.1 g1
    rw [keep_at] at g2
    obtain ⟨o0, g2', rfl⟩ := Option.map_eq_some_iff.1 g2
    have hh : Has s.heap nm o0 := ⟨x0, hx0, g2', (keep_in _ _ _).1 g3⟩
    obtain ⟨v', q1, q2⟩ := h.wr.obj nm o0 hh
    have hnp' : pre'.elem nm.id = false := by have h0 : (!pre'.elem nm.id) = true := hnp; revert h0; cases pre'.elem nm.id <;> simp
    have hbn : look back nm.id = none := by
     cases hb : look back nm.id with
     | none => rfl
     | some k =>
      obtain ⟨hk1, hk2⟩ := back_some _ _ hb
      have hls : look (sigH σ post) nm.id = (look post k).map (HO.sig σ) := by
       rw [← hk2]; exact look_sigH fun a ha e => inj a k (.inr ha) (.inr hk1) e
      obtain ⟨y, hy⟩ := Option.isSome_iff_exists.1 ((inPost k).1 hk1)
      rw [hp, hy] at hls; cases hls
    refine ⟨v', by rw [t2b nm hbn, hnp']; exact q1, ?_⟩
    have r1 : HOk F' w' τ o0 v' := q2.mono hr'.fsup hFb (fun _ _ h => h) fun b hb => hkeep.block b (h.wr.tlt nm v' b q1 hb).2 (apart nm v' b hnp' q1 hb)
    exact keep_hok2 (fun id hid u hu => hkept id u (.inr hu) (by simpa using hid) hu) r1
   ·cases g1
 ·rcases kinds nm u hu with ⟨k', b1, hu⟩ | ⟨b1, hp, hu⟩
  ·obtain ⟨o', ho'⟩ := hr'.dom _ u hu
   obtain ⟨y, g1, g2, g3⟩ := ho'
   obtain ⟨hk1, hk2⟩ := back_some _ _ b1
   refine ⟨o'.sig σ, y.sig σ, ?_, by rw [sig_at]; show (y.at_ nm.ix).map _ = _; rw [g2]; rfl, (sig_in _ _ _).2 g3⟩
   have hls : look (sigH σ post) nm.id = (look post k').map (HO.sig σ) := by
    rw [← hk2]; exact look_sigH fun a ha e => inj a k' (.inr ha) (.inr hk1) e
   simp only [St.after, look_append]
   rw [hls, show look post k' = some y from g1]; rfl
  ·obtain ⟨o', ho'⟩ := h.wr.dom nm u hu
   obtain ⟨y, g1, g2, g3⟩ := ho'
   refine ⟨_, y.keep (fun nm => !((pre.map fun x => sg σ x.1).filter fun k => !(post.map fun x => sg σ x.1).elem k).elem nm.id), ?_, by rw [keep_at, g2]; rfl, (keep_in _ _ _).2 g3⟩
   have hpn : look (sigH σ post) nm.id = none := by
    cases hq : look (sigH σ post) nm.id with
    | none => rfl
    | some z =>
     obtain ⟨k, hk1, hk2⟩ := look_sigH_some hq
     have := back_at k hk1
     rw [hk2, b1] at this; cases this
   simp only [St.after, look_append]
   rw [hpn]
   simp only
   rw [look_map (fun o : HO => o.keep fun nm => !((pre.map fun x => sg σ x.1).filter fun k => !(post.map fun x => sg σ x.1).elem k).elem nm.id), look_filterP fun k => !(pre.map fun x => sg σ x.1).elem k]
   have hp2 : (!(pre.map fun x => sg σ x.1).elem nm.id) = true := by
    have : (pre.map fun x => sg σ x.1).elem nm.id = false := hp
    rw [this]; rfl
   rw [if_pos hp2, g1]; rfl
 ·rcases kinds nm u hu with ⟨k', b1, hu⟩ | ⟨b1, hp, hu⟩
  ·obtain ⟨hk1, hk2⟩ := back_some _ _ b1
   by_cases hkp : k' ∈ pre.map (·.1)
   ·have h1000 : 1000 ≤ k' := Nat.le_of_ble_eq_true (List.all_eq_true.1 k4 k' hkp)
    have q3 : τ1 ⟨k', nm.ix⟩ = some u := hr'.old ⟨k', nm.ix⟩ u h1000 hu
    have e := (t1' _ _ q3).2
    have e2 : sgN σ ⟨k', nm.ix⟩ = nm := by cases nm; simp only [sgN] at hk2 ⊢; rw [hk2]
    rw [e2] at e
    exact h.wr.old nm u ho e
   ·exfalso
    have := List.all_eq_true.1 k7 k' hk1
    simp only [Bool.or_eq_true] at this
    rcases this with q | q
    ·rw [List.elem_eq_mem, decide_eq_true_iff] at q; exact hkp q
    ·have := blt_lt0 q; omega
  ·exact h.wr.old nm u ho hu
 ·simp only [St.after] at ht
  rw [look_cons] at ht
  have hdsz : d < a.tmps.size := by rw [h.size]; exact hd
  split at ht
  ·rename_i e0; subst e0; injection ht with ht; subst ht
   refine ⟨hd, ?_⟩
   have : (a.tmps.setIfInBounds t v).getD t undef = v := by simp [hdsz]
   simp only [Act.put]; rw [this]
   refine hv.sig fun nm1 u1 hu1 => ?_
   obtain ⟨o1, ho1⟩ := hr'.dom nm1 u1 hu1
   have : look back (sgN σ nm1).id = some nm1.id := back_at nm1.id ((inPost _).2 ho1.isSome)
   rw [t2a _ _ this]; exact hu1
  ·rename_i e0
   rw [look_map (fun x : AV => x.keep fun nm => !((pre.map fun x => sg σ x.1).filter fun k => !(post.map fun x => sg σ x.1).elem k).elem nm.id)] at ht
   obtain ⟨y0, hy0, rfl⟩ := Option.map_eq_some_iff.1 ht
   obtain ⟨h1, h2⟩ := h.env t y0 hy0
   refine ⟨h1, ?_⟩
   have : (a.tmps.setIfInBounds d v).getD t undef = a.tmps.getD t undef := by
    simp only [Array.getD_eq_getD_getElem?]
    rw [Array.getElem?_setIfInBounds_ne (by omega)]
   simp only [Act.put]; rw [this]
   exact keep_rep2 (fun id hid u hu => hkept id u (.inr hu) (by simpa using hid) hu) (hlater _ _ _ h2)
theorem RelA.callR {P : Program} {cx τ F s a w} (h : RelA cx τ F s a w) {f : FuncId} {args : List AV} {pre : List (Nat × HO)} {R : AV → List (Nat × HO) → Prop} (hc : ACallR P f args pre R) {σ : List (Nat × Nat)} {ys : List AV} (hys : ys = AV.sigL σ args) (hall : AllAt s.heap (sigH σ pre)) (hpre : sigPre σ pre = true) (hsok : ∀ res post, R res post → sigOK s σ ⟨args, pre, res, post⟩ = true) {d : Nat} (hd : d < cx.n)
  {vs : List Value} (hl : vs.length = ys.length) (hvs : ∀ (j : Nat) (y : AV), ys[j]? = some y → Rep F w τ y (vs.getD j undef)) :
  Calls P f vs.toArray w fun e w' => ∃ v res post, R res post ∧ e = .returned v ∧ Rel cx (s.after σ ⟨args, pre, res, post⟩ d) (a.put (some d) v) w' := by
 obtain ⟨_, ⟨hcl1, hcl2, hcl3⟩, hcall⟩ := hc
 obtain ⟨τ1, rel1, _, hunsig, hback⟩ := h.lendT (P := P) hcl1 hcl3 hall hpre hsok hd
 refine (hcall F τ1 w vs rel1 (by rw [hl, hys, sigL_len]) (fun j x hx => ?_)).mono fun e w' ⟨v, F', τ', res, post, hRr, he, hr', hv⟩ => ⟨v, res, post, hRr, he, ?_⟩
 ·have hy : ys[j]? = some (x.sig σ) := by rw [hys, sigL_get, hx]; rfl
  exact hunsig (refsPL_at hcl2 j x hx) (hvs j _ hy)
 ·obtain ⟨τ2, h2⟩ := hback w' v F' τ' res post hRr hr' hv
  exact ⟨τ2, F', h2⟩
theorem ACallM.toR {P : Program} {f : FuncId} {sp : MSpec} (hc : ACallM P f sp) : ACallR P f sp.args sp.pre fun r p => r = sp.res ∧ p = sp.post :=
 ⟨hc.1, ⟨hc.2.1.1, hc.2.1.2.1, fun res post h => by rw [h.2]; exact hc.2.1.2.2⟩, fun F τ w vs hR hl hr => (hc.2.2 F τ w vs hR hl hr).mono fun e w' ⟨v, F', τ', he, h1, h2⟩ => ⟨v, F', τ', sp.res, sp.post, ⟨rfl, rfl⟩, he, h1, h2⟩⟩
theorem sigPre_of {s : St} {σ : List (Nat × Nat)} {sp : MSpec} (hok : sigOK s σ sp = true) : sigPre σ sp.pre = true := by
 simp only [sigOK, Bool.and_eq_true] at hok
 obtain ⟨⟨⟨⟨⟨⟨⟨k0, k1⟩, k2⟩, k3⟩, k4⟩, k5⟩, k6⟩, k7⟩ := hok
 unfold sigPre
 rw [List.map_append] at k1
 have : ∀ (a b : List Nat), nodupB (a ++ b) = true → nodupB a = true := by
  intro a
  induction a with
  | nil => intro _ _; rfl
  | cons x r ih =>
   intro b h
   simp only [List.cons_append, nodupB, Bool.and_eq_true] at h ⊢
   refine ⟨?_, ih b h.2⟩
   have h1 := h.1
   simp only [List.elem_eq_mem, Bool.not_eq_true', decide_eq_false_iff_not, List.mem_append] at h1 ⊢
   exact fun hm => h1 (.inl hm)
 exact this _ _ k1
theorem RelA.callM {P : Program} {cx τ F s a w} (h : RelA cx τ F s a w) {f : FuncId} {sp : MSpec} (hc : ACallM P f sp) {σ : List (Nat × Nat)} {ys : List AV} (hys : ys = AV.sigL σ sp.args) (hall : AllAt s.heap (sigH σ sp.pre)) (hok : sigOK s σ sp = true) {d : Nat} (hd : d < cx.n)
  {vs : List Value} (hl : vs.length = ys.length) (hvs : ∀ (j : Nat) (y : AV), ys[j]? = some y → Rep F w τ y (vs.getD j undef)) :
  Calls P f vs.toArray w fun e w' => ∃ v, e = .returned v ∧ Rel cx (s.after σ sp d) (a.put (some d) v) w' :=
 (h.callR hc.toR hys hall (sigPre_of hok) (fun res post hR => by rw [hR.1, hR.2]; exact hok) hd hl hvs).mono fun e w' ⟨v, res, post, hR, he, hrel⟩ => ⟨v, he, by rw [hR.1, hR.2] at hrel; exact hrel⟩
end Go.Abs
set_option linter.unusedSimpArgs false
namespace Go.Abs
open Go Go.RowKit
theorem RelA.writeSpan {cx τ F s a w} (h : RelA cx τ F s a w) {id : Nm} {e esz n off q : Nat} {row src : Nat → List AV} (hl : Has s.heap id (.row e esz n row)) {b m c : Nat} (hτ : τ id = some (.slice (some ⟨b, 0, none⟩) m c)) (hi : off + q ≤ n) {news : List Value} (hsz : news.length = q * esz) (hall : ∀ u ∈ news, u.oneCell' = true)
  (hsl : ∀ i, i < q → (src i).length = esz) (hrep : ∀ i j x, i < q → (src i)[j]? = some x → Rep F w (fun _ => none) x (news.getD (i * esz + j) undef)) :
  ∃ w', (storeCells ⟨b, off * esz, none⟩ news 0).run cx.P w = .ok () w' ∧ RelA cx τ F { s with heap := setO s.heap id (.row e esz n fun j => if off ≤ j ∧ j < off + q then src (j - off) else row j) } a w' := by
 obtain ⟨u, h1, ho⟩ := h.wr.obj id _ hl
 have ho' := ho
 obtain ⟨xs, hown, hrl, hrr⟩ := ho'
 rw [hτ] at h1; injection h1 with h1; subst h1
 have hmn := own_form hown
 subst hmn
 rcases hown.2 with ⟨h', _⟩ | ⟨g, cap, cur, hv, _, hg, hnc, hcm, hcs, htk⟩
 ·cases h'
 simp only [Value.slice.injEq, Option.some.injEq, Addr.mk.injEq, and_true, true_and] at hv
 obtain ⟨rfl, rfl⟩ := hv
 have hspan : off * esz + q * esz ≤ m * esz := by rw [← Nat.add_mul]; exact Nat.mul_le_mul_right _ hi
 have hcap : m * esz ≤ cur.size := by rw [hcs]; exact Nat.mul_le_mul_right _ hnc
 have hrun := run_storeCells_at cx.P b (off * esz) e news 0 cur w hg (by omega) hall
 refine ⟨_, hrun, ?_⟩
 simp only [Nat.add_zero] at hrun ⊢
 generalize hnew : (cur.toList.take (off * esz) ++ news ++ cur.toList.drop (off * esz + news.length)).toArray = c' at hrun ⊢
 have hw' : (w.setRow b c').heap[b]? = some (.cells c' e (0, 0)) := setRow_heap w b cur c' e _ hg
 have hother : ∀ k, k ≠ b → (w.setRow b c').heap[k]? = w.heap[k]? := fun k hk => by
  simp only [World.setRow, Array.getElem?_modify]; rw [if_neg (fun e => hk e.symm)]
 have hsize : (w.setRow b c').heap.size = w.heap.size := by simp [World.setRow]
 have htl := h.wr.tlt id _ b hτ rfl
 have hFb : ∀ k, F k → k ≠ b := fun k hk e => h.wr.fne k id _ hk hτ (by subst e; rfl)
 have hF : ∀ k, F k → (w.setRow b c').heap[k]? = w.heap[k]? := fun k hk => hother k (hFb k hk)
 have hmono : ∀ x u, Rep F w τ x u → Rep F (w.setRow b c') τ x u := fun x u hr => hr.mono (fun _ h => h) hF (fun _ _ h => h)
 have hmono0 : ∀ x u, Rep F w (fun _ => none) x u → Rep F (w.setRow b c') (fun _ => none) x u := fun x u hr => hr.mono (fun _ h => h) hF (fun _ _ h => h)
 have hset : ∀ {nm' : Nm} {y : HO}, Has (setO s.heap id (.row e esz m fun j => if off ≤ j ∧ j < off + q then src (j - off) else row j)) nm' y ↔ (nm' = id ∧ y = .row e esz m fun j => if off ≤ j ∧ j < off + q then src (j - off) else row j) ∨ (nm' ≠ id ∧ Has s.heap nm' y) := by
  intro nm' y
  exact has_set hl rfl rfl (fun _ => rfl)
 have hc's : c'.size = cur.size := by subst hnew; simp; omega
 have hxs' : xs.length = m * esz := hown.1
 have hget : ∀ k, c'[k]? = if k < off * esz then cur[k]? else if k < off * esz + q * esz then news[k - off * esz]? else cur[k]? := by
  intro k
  subst hnew
  simp only [List.getElem?_toArray]
  have hlen : (cur.toList.take (off * esz)).length = off * esz := by simp; omega
  by_cases k1 : k < off * esz
  ·rw [if_pos k1, List.append_assoc, List.getElem?_append_left (by omega), List.getElem?_take, if_pos k1]; simp
  ·rw [if_neg k1]
   by_cases k2 : k < off * esz + q * esz
   ·rw [if_pos k2, List.append_assoc, List.getElem?_append_right (by omega), List.getElem?_append_left (by omega), hlen]
   ·have hlen2 : (cur.toList.take (off * esz) ++ news).length = off * esz + q * esz := by simp; omega
    rw [if_neg k2, List.getElem?_append_right (by omega), hlen2, List.getElem?_drop, hsz, show off * esz + q * esz + (k - (off * esz + q * esz)) = k by omega]; simp
 refine ⟨⟨⟨h.wr.keeps.os, h.wr.keeps.tape, h.wr.keeps.output, by rw [hsize]; exact h.wr.keeps.size, fun k hk hx => ?_⟩, fun k hk => by rw [hsize]; exact h.wr.fz k hk, h.wr.fne, h.wr.fsub, h.wr.fsup, fun id v b hv hk => by rw [hsize]; exact h.wr.tlt id v b hv hk, h.wr.inj, fun id' o hl' => ?_, fun id' u hu => ?_, h.wr.old, h.wr.cxn⟩, h.size, h.defers, fun t x ht => ⟨(h.env t x ht).1, hmono _ _ (h.env t x ht).2⟩⟩
 ·rw [hother k (by rintro rfl; rcases htl.1 with h | h; omega; exact hx h)]; exact h.wr.keeps.block k hk hx
 ·rcases hset.1 hl' with ⟨e0, e1⟩ | ⟨hne, hl'⟩
  ·subst e0 e1
   refine ⟨_, hτ, c'.toList.take (m * esz), ⟨by simp; omega, .inr ⟨b, c, c', rfl, Nat.zero_le _, hw', hnc, hcm, by rw [hc's, hcs], rfl⟩⟩, fun k hk => ?_, fun k j x hk hx => ?_⟩
   ·by_cases hki : off ≤ k ∧ k < off + q
    ·simp only [hki, and_self, if_true]; exact hsl _ (by omega)
    ·simp only [hki, if_false]; exact hrl k hk
   ·have hkrow : (k + 1) * esz ≤ m * esz := Nat.mul_le_mul_right _ hk
    rw [Nat.add_mul, Nat.one_mul] at hkrow
    have hgd : ∀ q, q < m * esz → (c'.toList.take (m * esz)).getD q undef = c'.getD q undef := fun q hq => by
     simp only [List.getD_eq_getElem?_getD, List.getElem?_take, if_pos hq, Array.getD_eq_getD_getElem?]; simp
    have hold : ∀ q, q < m * esz → cur.getD q undef = xs.getD q undef := fun q hq => by
     rw [← htk]; simp only [List.getD_eq_getElem?_getD, List.getElem?_take, if_pos hq, Array.getD_eq_getD_getElem?]; simp
    by_cases hki : off ≤ k ∧ k < off + q
    ·simp only [hki, and_self, if_true] at hx
     have hj : j < esz := by have h1 : j < (src (k - off)).length := (List.getElem?_eq_some_iff.1 hx).1; rw [hsl _ (by omega)] at h1; exact h1
     have h2 : off * esz ≤ k * esz := Nat.mul_le_mul_right _ hki.1
     have h3 : (k + 1) * esz ≤ (off + q) * esz := Nat.mul_le_mul_right _ (by omega)
     rw [Nat.add_mul, Nat.add_mul, Nat.one_mul] at h3
     have hlt : k * esz + j < m * esz := by omega
     have e5 : k * esz + j - off * esz = (k - off) * esz + j := by rw [Nat.sub_mul]; omega
     rw [hgd _ hlt, Array.getD_eq_getD_getElem?, hget, if_neg (by omega), if_pos (by omega), e5, ← List.getD_eq_getElem?_getD]
     exact hmono0 _ _ (hrep (k - off) j x (by omega) hx)
    ·simp only [hki, if_false] at hx
     have hjl : j < esz := by have h1 : j < (row k).length := (List.getElem?_eq_some_iff.1 hx).1; rw [hrl k hk] at h1; exact h1
     have hlt : k * esz + j < m * esz := by omega
     have hfar : k * esz + j < off * esz ∨ ¬ k * esz + j < off * esz + q * esz := by
      rcases Nat.lt_or_ge k off with hki' | hki'
      ·have : (k + 1) * esz ≤ off * esz := Nat.mul_le_mul_right _ hki'
       rw [Nat.add_mul, Nat.one_mul] at this; omega
      ·have : (off + q) * esz ≤ k * esz := Nat.mul_le_mul_right _ (by omega)
       rw [Nat.add_mul] at this; omega
     have hsame : c'[k * esz + j]? = cur[k * esz + j]? := by
      rw [hget]
      rcases hfar with hf | hf
      ·rw [if_pos hf]
      ·by_cases q : k * esz + j < off * esz
       ·rw [if_pos q]
       ·rw [if_neg q, if_neg hf]
     rw [hgd _ hlt, Array.getD_eq_getD_getElem?, hsame, ← Array.getD_eq_getD_getElem?, hold _ hlt]
     exact hmono0 _ _ (hrr k j x hk hx)
  ·obtain ⟨u, q1, q2⟩ := h.wr.obj id' o hl'
   refine ⟨u, q1, q2.mono (fun _ h => h) hF (fun _ _ h => h) fun b' hb' => hother b' ?_⟩
   rintro rfl
   exact hne (h.wr.inj id' id u _ b' q1 hτ hb' rfl)
 ·obtain ⟨o, ho⟩ := h.wr.dom id' u hu
  by_cases e0 : id' = id
  ·exact ⟨_, hset.2 (.inl ⟨e0, rfl⟩)⟩
  ·exact ⟨o, hset.2 (.inr ⟨e0, ho⟩)⟩
theorem copy_run {P : Program} {w w' : World} {t ty e esz by_ : Nat} (hok : (TI.slice e esz by_).okB P t = true) {D A : Option Addr} {dn dc m c q : Nat} (hq : q = min m dn) {news : List Value} (hnl : news.length = q * esz)
  (hsrc : 0 < q → ∃ a, A = some a ∧ ∀ j u, news[j]? = some u → w.cell? (a.add j) = some u) (hdst : (q = 0 ∧ D = none ∧ w' = w) ∨ ∃ a, D = some a ∧ (storeCells a news 0).run P w = .ok () w') :
  (Builtin.copy_ #[t, t] ty #[.slice D dn dc, .slice A m c]).run P w = .ok (.int .i64 q) w' := by
 obtain ⟨i, hu, hi, hs, _, _⟩ := ok_slice hok
 have hqe : Nat.min m dn = q := hq.symm
 have hfc : (Builtin.firstCells esz q (.slice A m c)).run P w = .ok news.toArray w := by
  rcases Nat.eq_zero_or_pos q with h0 | h0
  ·subst h0
   have hn0 : news = [] := List.length_eq_zero_iff.1 (by simpa using hnl)
   subst hn0
   cases A with
   | none => rfl
   | some a => simp [Builtin.firstCells, loadCells, loadCellsFrom]
  ·obtain ⟨a, rfl, ha⟩ := hsrc h0
   have := run_loadCells_list (P := P) w a news ha
   rw [hnl] at this
   simpa [Builtin.firstCells] using this
 simp only [Builtin.copy_, List.getElem?_toArray, List.getElem?_cons_zero, List.getElem?_cons_succ, Builtin.lenOf, Sem.run_bind, run_underlying hu, sizeOf_run hi, Result.andThen_ok, Sem.run_pure, hqe, hs, hfc]
 rcases hdst with ⟨h0, rfl, rfl⟩ | ⟨a, rfl, ha⟩
 ·rw [h0]; rfl
 ·simp [ha, goInt]
theorem RelA.reset {cx τ F s a w} (h : RelA cx τ F s a w) {id : Nm} {o o' : HO} (hl : Has s.heap id o) (hf : o.flat = true) (hf' : o'.flat = true) (hs : HO.sel true o' o = o') (ho : ∀ v, τ id = some v → HOk F w τ o' v) : RelA cx τ F { s with heap := setO s.heap id o' } a w := by
 have hset : ∀ {nm' : Nm} {y : HO}, Has (setO s.heap id o') nm' y ↔ (nm' = id ∧ y = o') ∨ (nm' ≠ id ∧ Has s.heap nm' y) := fun {nm' y} => has_set hl hf' hf (fun _ => hs)
 refine ⟨⟨h.wr.keeps, h.wr.fz, h.wr.fne, h.wr.fsub, h.wr.fsup, h.wr.tlt, h.wr.inj, fun id' y hl' => ?_, fun id' u hu => ?_, h.wr.old, h.wr.cxn⟩, h.size, h.defers, h.env⟩
 ·rcases hset.1 hl' with ⟨e0, e1⟩ | ⟨hne, hl'⟩
  ·subst e0 e1
   obtain ⟨u, q1, _⟩ := h.wr.obj id' _ hl
   exact ⟨u, q1, ho u q1⟩
  ·exact h.wr.obj id' y hl'
 ·obtain ⟨y, hy⟩ := h.wr.dom id' u hu
  by_cases e0 : id' = id
  ·exact ⟨_, hset.2 (.inl ⟨e0, rfl⟩)⟩
  ·exact ⟨y, hset.2 (.inr ⟨e0, hy⟩)⟩
theorem copyV_sound {cx τ F s a w} (h : RelA cx τ F s a w) {e esz by_ t ty m : Nat} {x : AV} {r : Bool} {row : Nat → List AV} {K : Nat → St → Prop} (ha : copyV s esz x r m row K)
  (hok : (TI.slice e esz by_).okB cx.P t = true) {u v : Value} (hs : SrcAt F w (rowτ r τ) esz m row u) (hone : ∀ i, i < m → (row i).all AV.oneB = true) (hx : Rep F w τ x v) :
  ∃ (q : Nat) (w' : World) (s' : St), (Builtin.copy_ #[t, t] ty #[v, u]).run cx.P w = .ok (.int .i64 (q : Int)) w' ∧ K q s' ∧ RelA cx τ F s' a w' := by
 obtain ⟨_, _, _, _, hpos, _⟩ := ok_slice hok
 have hrl : ∀ i, i < m → (row i).length = esz := by obtain ⟨_, _, _, h, _⟩ := hs; exact h
 have key : ∀ (id : Nm) (e' n' n off : Nat) (row' : Nat → List AV) (A : Option Addr) (M c : Nat) (Z : Option Addr), (c ≠ off → Z = A.map (·.add (off * esz))) → Has s.heap id (.row e' esz n' row') → off + n ≤ n' → r = false → τ id = some (.slice A M c) →
   K (min m n) { s with heap := setO s.heap id (.row e' esz n' fun j => if off ≤ j ∧ j < off + min m n then row (j - off) else row' j) } →
   ∃ (q : Nat) (w' : World) (s' : St), (Builtin.copy_ #[t, t] ty #[.slice Z n (c - off), u]).run cx.P w = .ok (.int .i64 (q : Int)) w' ∧ K q s' ∧ RelA cx τ F s' a w' := by
  intro id e' n' n off row' A M c Z hZ hl hn hr hτ hK
  subst hr
  obtain ⟨B, bc, news0, rfl, n1, n2, n3, n4⟩ := src_news hpos hs hone
  obtain ⟨u0, q1, q2⟩ := h.wr.obj id _ hl
  have q2' := q2
  obtain ⟨xs, hown, r3, r4⟩ := q2'
  rw [hτ] at q1; injection q1 with q1; subst q1
  have hM := own_form hown
  subst hM
  have hqm : min m n ≤ m := Nat.min_le_left _ _
  have hqn : min m n ≤ n := Nat.min_le_right _ _
  have hql : (news0.take (min m n * esz)).length = min m n * esz := by
   have : min m n * esz ≤ m * esz := Nat.mul_le_mul_right _ hqm
   rw [List.length_take, n1]; omega
  have hsrc : 0 < min m n → ∃ a, B = some a ∧ ∀ (j : Nat) (u : Value), (news0.take (min m n * esz))[j]? = some u → w.cell? (a.add j) = some u := fun h0 => by
   obtain ⟨b, o, hB, hc⟩ := n2 (by omega)
   refine ⟨_, hB, fun j u hj => hc j u ?_⟩
   rw [List.getElem?_take] at hj
   split at hj
   ·exact hj
   ·cases hj
  rcases hown.2 with ⟨h', h0⟩ | ⟨g, cap, cur, hv, _, hg, hnc, hcm, hcs, htk⟩
  ·simp only [Value.slice.injEq] at h'
   obtain ⟨rfl, _, rfl⟩ := h'
   have hq0 : min m n = 0 := by omega
   have hnil : news0.take (min m n * esz) = [] := by rw [hq0, Nat.zero_mul, List.take_zero]
   refine ⟨_, w, _, copy_run (w' := w) hok rfl hql hsrc (by
    cases Z with
    | none => exact .inl ⟨hq0, rfl, rfl⟩
    | some z => exact .inr ⟨z, rfl, by rw [hnil]; rfl⟩), hK, h.reset (o' := .row e' esz _ _) hl rfl rfl rfl fun v hv => ?_⟩
   rw [hτ] at hv; injection hv with hv; subst hv
   exact ⟨xs, hown, fun i hi => absurd hi (by omega), fun i j x hi => absurd hi (by omega)⟩
  ·simp only [Value.slice.injEq] at hv
   obtain ⟨rfl, _, rfl⟩ := hv
   by_cases hco : c = off
   ·have hq0 : min m n = 0 := by omega
    have hnil : news0.take (min m n * esz) = [] := by rw [hq0, Nat.zero_mul, List.take_zero]
    refine ⟨_, w, _, copy_run (w' := w) hok rfl hql hsrc (by
     cases Z with
     | none => exact .inl ⟨hq0, rfl, rfl⟩
     | some z => exact .inr ⟨z, rfl, by rw [hnil]; rfl⟩), hK, h.reset (o' := .row e' esz _ _) hl rfl rfl rfl fun v hv => ?_⟩
    rw [hτ] at hv; injection hv with hv; subst hv
    refine ⟨xs, hown, fun i hi => ?_, fun i j x hi hx => ?_⟩
    ·have : ¬ (off ≤ i ∧ i < off + min m n) := by omega
     simp only [this, if_false]; exact r3 i hi
    ·have : ¬ (off ≤ i ∧ i < off + min m n) := by omega
     simp only [this, if_false] at hx; exact r4 i j x hi hx
   ·obtain ⟨w', w1, w2⟩ := h.writeSpan hl hτ (off := off) (q := min m n) (src := row) (by omega) hql (fun u hu => n3 u (List.mem_of_mem_take hu)) (fun i hi => hrl i (by omega)) (fun i j x hi hx => by
     have e1 : (news0.take (min m n * esz)).getD (i * esz + j) undef = news0.getD (i * esz + j) undef := by
      have hj : j < esz := by have h1 : j < (row i).length := (List.getElem?_eq_some_iff.1 hx).1; rw [hrl i (by omega)] at h1; exact h1
      have : (i + 1) * esz ≤ min m n * esz := Nat.mul_le_mul_right _ hi
      rw [Nat.add_mul, Nat.one_mul] at this
      rw [List.getD_eq_getElem?_getD, List.getElem?_take, if_pos (by omega), List.getD_eq_getElem?_getD]
     rw [e1]; exact n4 i j x (by omega) hx)
    exact ⟨_, w', _, copy_run hok rfl hql hsrc (.inr ⟨_, by rw [hZ hco]; simp [add_none], w1⟩), hK, w2⟩
 unfold copyV at ha
 split at ha
 ·rename_i id n
  obtain ⟨o, ha, hH⟩ := getO_sound ha
  split at ha
  ·rename_i e' esz' n' row'
   obtain ⟨hz, ha⟩ := chk_spec ha
   obtain ⟨hr, hn, hK⟩ := chk_spec ha
   have hz := Nat.eq_of_beq_eq_true hz
   subst hz
   cases hx with
   | sl _ _ _ A M c hτ hnM hMc hA =>
    have := key id e' n' n 0 row' A M c (if c = 0 then A else A.map (·.add (0 * esz'))) (fun h => if_neg h) (hH rfl) (by omega) (by simpa using hr) hτ hK
    have e2 : (if c = 0 then A else A.map (·.add (0 * esz'))) = A := by
     split
     ·rfl
     ·cases A <;> simp [Addr.add]
    rw [e2, Nat.sub_zero] at this
    exact this
  ·exact ha.elim
 ·rename_i id z off n
  obtain ⟨hzz, ha⟩ := chk_spec ha
  obtain ⟨o, ha, hH⟩ := getO_sound ha
  split at ha
  ·rename_i e' esz' n' row'
   obtain ⟨hz, ha⟩ := chk_spec ha
   obtain ⟨hr, hn, hK⟩ := chk_spec ha
   have hz := Nat.eq_of_beq_eq_true hz
   have hzz := Nat.eq_of_beq_eq_true hzz
   subst hz hzz
   cases hx with
   | so _ _ _ _ _ A M c Z hτ hnM hMc hA hZ hZ2 =>
    exact key id e' n' n off row' A M c Z hZ (hH rfl) hn (by simpa using hr) hτ hK
  ·exact ha.elim
 ·exact ha.elim
end Go.Abs
namespace Go.Abs
open Go Go.RowKit
set_option linter.unusedVariables false
theorem noRoL_at : ∀ {cs : List AV}, AV.noRoL cs = true → ∀ (j : Nat) (x : AV), cs[j]? = some x → x.noRo = true
 | [], _, j, x, h => by simp at h
 | c :: r, hp, j, x, h => by
  simp only [AV.noRoL, Bool.and_eq_true] at hp
  cases j with
  | zero => simp at h; subst h; exact hp.1
  | succ j => exact noRoL_at hp.2 j x (by simpa using h)
theorem Rep.noRo {F F' : Nat → Prop} {w : World} {τ : Nm → Option Value} {x : AV} {v : Value} (hp : x.noRo = true) (h : Rep F w τ x v) : Rep F' w τ x v := by
 induction h with
 | val τ v => exact .val _ v
 | any τ v => exact .any _ v
 | condT τ x v _ ih => exact .condT _ x v (ih hp)
 | condF τ x => exact .condF _ x
 | agg τ cs vs hl _ ih => exact .agg _ cs vs hl fun j c hc => ih j c hc (noRoL_at (by simpa [AV.noRo] using hp) j c hc)
 | tup τ cs vs hl _ ih => exact .tup _ cs vs hl fun j c hc => ih j c hc (noRoL_at (by simpa [AV.noRo] using hp) j c hc)
 | fn τ f cs vs hl _ ih => exact .fn _ f cs vs hl fun j c hc => ih j c hc (noRoL_at (by simpa [AV.noRo] using hp) j c hc)
 | ro τ sz n row A c f h1 h2 h3 h4 h5 _ => simp [AV.noRo] at hp
 | ptr τ cs b o f h1 h2 h3 _ => simp [AV.noRo] at hp
 | obj τ id off b hb => exact .obj _ id off b hb
 | sl τ id n A m c hb hn hm hA => exact .sl _ id n A m c hb hn hm hA
 | so τ id esz off n A m c Z hb hn hm hA hZ hZ2 => exact .so _ id esz off n A m c Z hb hn hm hA hZ hZ2
 | rp τ id esz i off b m c hb => exact .rp _ id esz i off b m c hb
theorem HOk.noRo {F F' : Nat → Prop} {w : World} {τ : Nm → Option Value} {o : HO} {v : Value} (hp : o.noRo) (h : HOk F w τ o v) : HOk F' w τ o v := by
 cases o with
 | cells cs =>
  obtain ⟨b, c, ty, rfl, h3, h4, h5⟩ := h
  exact ⟨b, c, ty, rfl, h3, h4, fun j x hx => (h5 j x hx).noRo (noRoL_at hp j x hx)⟩
 | row e esz n row =>
  obtain ⟨xs, h1, h2, h3⟩ := h
  exact ⟨xs, h1, h2, fun i j x hi hx => (h3 i j x hi hx).noRo (noRoL_at (hp i hi) j x hx)⟩
 | rows e esz n row =>
  obtain ⟨xs, h1, h2, h3⟩ := h
  exact ⟨xs, h1, h2, fun i j x hi hx => (h3 i j x hi hx).noRo (noRoL_at (hp i hi) j x hx)⟩
 | fam D f => exact h.elim
theorem noRoH_at : ∀ {l : List (Nat × HO)}, noRoH l → ∀ {k : Nat} {o : HO}, look l k = some o → o.noRo
 | [], _, k, o, h => by cases h
 | (k0, o0) :: r, hp, k, o, h => by
  rw [look_cons] at h
  split at h
  ·injection h with h; subst h; exact hp.1
  ·exact noRoH_at hp.2 h
theorem noRo_at {o : HO} (hp : o.noRo) {ix : List Nat} {y : HO} (h : o.at_ ix = some y) (hi : o.in_ ix) : y.noRo := by
 cases o with
 | fam D f =>
  simp only [HO.at_, Option.some.injEq] at h
  subst h; exact hp ix hi
 | _ =>
  obtain ⟨rfl, rfl⟩ := (HO.at_flat rfl).1 h
  exact hp
theorem view_rep {cx : Cx} {F : Nat → Prop} {τ : Nm → Option Value} {s : St} {w : World} (hw : RelW cx τ F s w) (V : List Nat) {y : AV} {v : Value} (hv : Rep F w τ y v) :
  Rep (fun k => F k ∨ ∃ id, V.elem id = true ∧ ∃ u, τ ⟨id, []⟩ = some u ∧ hblk u = some k) w τ (viewA s V y) v := by
 have same : Rep (fun k => F k ∨ ∃ id, V.elem id = true ∧ ∃ u, τ ⟨id, []⟩ = some u ∧ hblk u = some k) w τ y v := hv.mono (fun _ h => .inl h) (fun _ _ => rfl) (fun _ _ h => h)
 unfold viewA
 split
 ·rename_i id off
  cases he : V.elem id with
  | false => exact same
  | true =>
   simp only [cond_true]
   split
   ·rename_i cs hl
    obtain ⟨u, r1, b, c, ty, rfl, h3, h4, h5⟩ := hw.obj ⟨id, []⟩ _ (Has.of_look hl rfl)
    cases hv with
    | obj _ _ _ b' hb =>
     rw [r1] at hb; injection hb with hb; injection hb with hb; injection hb with hb; injection hb with hb; subst hb
     refine .ptr _ _ b off (fun j => c.getD (off + j) undef) (.inr ⟨id, he, _, r1, rfl⟩) (fun j hj => ?_) (fun j x hx => ?_)
     ·rw [cell_of_row _ _ _ _ _ _ h3]
      have : off + j < c.size := by rw [h4]; simp at hj; omega
      simp [this]
     ·rw [List.getElem?_drop, List.getElem?_map] at hx
      obtain ⟨z, hz, rfl⟩ := Option.map_eq_some_iff.1 hx
      have hr := h5 (off + j) z hz
      unfold AV.orAny
      cases hp : z.pureB with
      | true => exact ((hr.pure hp).mono (fun _ h => .inl h) (fun _ _ => rfl) (fun _ _ h => h))
      | false => exact .any _ _
   ·exact same
 ·rename_i id n
  cases he : V.elem id with
  | false => exact same
  | true =>
   simp only [cond_true]
   split
   ·rename_i e esz m f hl
    obtain ⟨u, r1, r2⟩ := hw.obj ⟨id, []⟩ _ (Has.of_look hl rfl)
    cases hv with
    | sl _ _ _ A n' c hτ hn hc hA =>
     rw [hτ] at r1; injection r1 with r1; subst r1
     obtain ⟨xs, p1, p2, p3⟩ := r2
     have hnn := own_form p1
     subst hnn
     refine .ro _ _ _ _ _ _ (fun i j => xs.getD (i * esz + j) undef) (by omega) ?_ (fun hm => ?_) (fun i hi => p2 i (by omega)) (fun i j x hi hx => (p3 i j x (by omega) hx).mono (fun _ h => .inl h) (fun _ _ => rfl) (fun _ _ h => by cases h))
     ·rcases p1.2 with ⟨h', h0⟩ | ⟨g, cap, cur, hv, _, hg, hnc, hcm, hcs, htk⟩
      ·simp only [Value.slice.injEq] at h'; omega
      ·simp only [Value.slice.injEq] at hv; omega
     ·rcases p1.2 with ⟨h', h0⟩ | ⟨g, cap, cur, hv, _, hg, hnc, hcm, hcs, htk⟩
      ·omega
      ·simp only [Value.slice.injEq] at hv
       obtain ⟨rfl, _, rfl⟩ := hv
       refine ⟨g, 0, rfl, .inr ⟨id, he, _, hτ, rfl⟩, fun i j hi hj => ?_⟩
       have hlt : i * esz + j < n' * esz := by
        have : (i + 1) * esz ≤ n' * esz := Nat.mul_le_mul_right _ (by omega)
        rw [Nat.add_mul, Nat.one_mul] at this; omega
       rw [cell_of_row _ _ _ _ _ _ hg]
       have hx : cur[0 + i * esz + j]? = xs[i * esz + j]? := by
        rw [← htk, List.getElem?_take, if_pos hlt]; simp
       rw [hx]
       have : i * esz + j < xs.length := by rw [p1.1]; exact hlt
       simp [List.getElem?_eq_getElem this]
   ·exact same
 ·exact same
theorem RelA.callV {P : Program} {cx τ F s a w} (h : RelA cx τ F s a w) {f : FuncId} {sp : MSpec} (hc : ACallM P f sp) (hnr : AV.noRo sp.res = true) (hnp : noRoH sp.post) {σ : List (Nat × Nat)} {V : Nat → Prop} (hV : ∀ b, V b → ∃ nm u, τ nm = some u ∧ hblk u = some b ∧ (sp.pre.map fun x => sg σ x.1).elem nm.id = false) (hall : AllAt s.heap (sigH σ sp.pre)) (hok : sigOK s σ sp = true) {d : Nat} (hd : d < cx.n)
  {vs : List Value} (hl : vs.length = sp.args.length) (hvs : ∀ (j : Nat) (y : AV), sp.args[j]? = some y → Rep (fun k => F k ∨ V k) w τ (y.sig σ) (vs.getD j undef)) :
  Calls P f vs.toArray w fun e w' => ∃ v, e = .returned v ∧ Rel cx (s.after σ sp d) (a.put (some d) v) w' := by
 have hpre := sigPre_of hok
 obtain ⟨args, pre, res, post⟩ := sp
 simp only at hc hnr hnp hV hall hok hl hvs hpre ⊢
 obtain ⟨_, ⟨hcl1, hcl2, hcl3⟩, hcall⟩ := hc
 have inPre : ∀ k, k ∈ pre.map (·.1) ↔ (look pre k).isSome = true := fun k => look_isSome.symm
 have injP : ∀ a b, a ∈ pre.map (·.1) → b ∈ pre.map (·.1) → sg σ a = sg σ b → a = b := fun a b ha hb e => nodupB_inj hpre a ha b hb e
 have hasPre : ∀ nm o, Has pre nm o → Has s.heap (sgN σ nm) (o.sig σ) ∧ o.refsP (domP pre) ∧ nm.id ∈ pre.map (·.1) := fun nm o ho => by
  obtain ⟨x, h1, h2, h3⟩ := ho
  have hin : nm.id ∈ pre.map (·.1) := (inPre _).2 (by rw [h1]; rfl)
  have hm : (sg σ nm.id, x.sig σ) ∈ sigH σ pre := List.mem_map.2 ⟨_, look_mem h1, rfl⟩
  refine ⟨⟨x.sig σ, allAt_look hall hm, by rw [sig_at]; show (x.at_ nm.ix).map _ = _; rw [h2]; rfl, (sig_in _ _ _).2 h3⟩, refsP_at (heapRefs_at hcl1 h1) h2 h3, hin⟩
 -- what the callee is lent
 let τ1 : Nm → Option Value := fun nm => open Classical in if domP pre nm then τ (sgN σ nm) else none
 have t1 : ∀ nm, domP pre nm → τ1 nm = τ (sgN σ nm) := fun nm hn => if_pos hn
 have t1' : ∀ nm u, τ1 nm = some u → domP pre nm ∧ τ (sgN σ nm) = some u := fun nm u hu => by
  have hu : (open Classical in if domP pre nm then τ (sgN σ nm) else none) = some u := hu
  split at hu
  ·exact ⟨by assumption, hu⟩
  ·cases hu
 have domIn : ∀ nm, domP pre nm → nm.id ∈ pre.map (·.1) := fun nm hn => by
  obtain ⟨o, ho⟩ := has_of_dom hn
  exact (hasPre nm o ho).2.2
 have ownL : ∀ b, ownB τ1 b → ∃ nm u, domP pre nm ∧ τ (sgN σ nm) = some u ∧ hblk u = some b := fun b ⟨nm, u, h1, h2⟩ => ⟨nm, u, (t1' nm u h1).1, (t1' nm u h1).2, h2⟩
 let F2 : Nat → Prop := fun k => F k ∨ V k
 have hunsig : ∀ {x : AV} {v : Value}, AV.refsP (domP pre) x → Rep F2 w τ (x.sig σ) v → Rep F2 w τ1 x v := fun hp hr => unsig (p := domP pre) (fun nm hn u hu => by rw [t1 nm hn]; exact hu) hp hr
 have vOwn : ∀ k, V k → ¬ F k := fun k hk hf => by
  obtain ⟨nm1, u1, q1, q2, _⟩ := hV k hk
  exact h.wr.fne k nm1 u1 hf q1 q2
 have vApart : ∀ k nm v, V k → τ1 nm = some v → hblk v ≠ some k := fun k nm v hk hv hb => by
  obtain ⟨nm1, u1, q1, q2, q3⟩ := hV k hk
  have e := h.wr.inj _ _ u1 v k q1 (t1' nm v hv).2 q2 hb
  have hin := domIn nm (t1' nm v hv).1
  have : (pre.map fun x => sg σ x.1).elem nm1.id = true := by
   rw [List.elem_eq_mem, decide_eq_true_iff, e]
   obtain ⟨x, hx, e2⟩ := List.mem_map.1 hin
   exact List.mem_map.2 ⟨x, hx, by rw [e2]; rfl⟩
  rw [this] at q3; cases q3
 have rel1 : RelW (cxM P 0 F2 τ1 w) τ1 F2 ⟨[], pre⟩ w := by
  refine ⟨Keeps.refl _ _, fun k hk => hk.elim (h.wr.fz k) (fun hk => by obtain ⟨nm1, u1, q1, q2, _⟩ := hV k hk; exact (h.wr.tlt nm1 u1 k q1 q2).2), fun k nm v hk hv => hk.elim (fun hk => h.wr.fne k _ v hk (t1' nm v hv).2) (fun hk => vApart k nm v hk hv), fun k hk => .inl hk, fun k hk => hk, fun nm v b hv hb => ⟨.inr ⟨nm, v, hv, hb⟩, (h.wr.tlt _ v b (t1' nm v hv).2 hb).2⟩, fun nm nm' v v' b hv hv' hb hb' => ?_, fun nm o ho => ?_, fun nm v hv => has_of_dom (t1' nm v hv).1, fun nm v _ hv => hv, Nat.zero_le _⟩
  ·have e := h.wr.inj _ _ v v' b (t1' nm v hv).2 (t1' nm' v' hv').2 hb hb'
   have e1 : sg σ nm.id = sg σ nm'.id := congrArg Nm.id e
   have e2 : nm.ix = nm'.ix := by have := congrArg Nm.ix e; exact this
   have e3 := injP _ _ (domIn nm (t1' nm v hv).1) (domIn nm' (t1' nm' v' hv').1) e1
   cases nm; cases nm'; simp only at e2 e3; rw [e2, e3]
  ·obtain ⟨h1, h2, h3⟩ := hasPre nm o ho
   obtain ⟨v, q1, q2⟩ := h.wr.obj _ _ h1
   refine ⟨v, by rw [t1 nm (domP_of ho)]; exact q1, HOk.unsig (p := domP pre) (fun nm hn u hu => by rw [t1 nm hn]; exact hu) h2 (q2.mono (fun _ h => .inl h) (fun _ _ => rfl) (fun _ _ h => h) (fun _ _ => rfl))⟩
 refine (hcall F2 τ1 w vs rel1 hl (fun j x hx => hunsig (refsPL_at hcl2 j x hx) (hvs j _ hx))).mono fun e w' ⟨v, F', τ', he, hr', hv⟩ => ⟨v, he, ?_⟩
 simp only [sigOK, Bool.and_eq_true] at hok
 obtain ⟨⟨⟨⟨⟨⟨⟨k0, k1⟩, k2⟩, k3⟩, k4⟩, k5⟩, k6⟩, k7⟩ := hok
 have inPost : ∀ k, k ∈ post.map (·.1) ↔ (look post k).isSome = true := fun k => look_isSome.symm
 have memIds : ∀ k, k ∈ pre.map (·.1) ∨ k ∈ post.map (·.1) → k ∈ pre.map (·.1) ++ (post.map (·.1)).filter fun k => !(pre.map (·.1)).elem k := fun k hk => by
  by_cases e : k ∈ pre.map (·.1)
  ·exact List.mem_append_left _ e
  ·refine List.mem_append_right _ (List.mem_filter.2 ⟨hk.resolve_left e, ?_⟩)
   simpa [List.elem_eq_mem] using e
 have inj : ∀ a b, (a ∈ pre.map (·.1) ∨ a ∈ post.map (·.1)) → (b ∈ pre.map (·.1) ∨ b ∈ post.map (·.1)) → sg σ a = sg σ b → a = b := fun a b ha hb e =>
  nodupB_inj k1 a (memIds a ha) b (memIds b hb) e
 -- the caller's names behind the call
 let back : List (Nat × Nat) := post.map fun x => (sg σ x.1, x.1)
 have back_at : ∀ k, k ∈ post.map (·.1) → look back (sg σ k) = some k := by
  intro k hk
  have : ∀ l : List (Nat × HO), (∀ x ∈ l, x.1 ∈ post.map (·.1)) → k ∈ l.map (·.1) → look (l.map fun x => (sg σ x.1, x.1)) (sg σ k) = some k := by
   intro l
   induction l with
   | nil => intro _ h; simp at h
   | cons x r ih =>
    intro hsub hm
    simp only [List.map_cons, look_cons]
    by_cases e : sg σ k = sg σ x.1
    ·rw [if_pos e, inj k x.1 (.inr hk) (.inr (hsub x (List.mem_cons_self ..))) e]
    ·rw [if_neg e]
     refine ih (fun y hy => hsub y (List.mem_cons_of_mem _ hy)) ?_
     rw [List.map_cons, List.mem_cons] at hm
     exact hm.resolve_left fun e2 => e (by rw [e2])
  exact this post (fun x hx => List.mem_map_of_mem hx) hk
 have back_some : ∀ j k, look back j = some k → k ∈ post.map (·.1) ∧ sg σ k = j := by
  intro j k hk
  obtain ⟨x, hx, e⟩ := List.mem_map.1 (look_mem hk)
  injection e with e1 e2
  subst e1 e2
  exact ⟨List.mem_map_of_mem hx, rfl⟩
 let pre' := pre.map fun x => sg σ x.1
 let post' := post.map fun x => sg σ x.1
 have pre_iff : ∀ j, pre'.elem j = true ↔ ∃ k, k ∈ pre.map (·.1) ∧ sg σ k = j := fun j => by
  rw [List.elem_eq_mem, decide_eq_true_iff]
  constructor
  ·intro hm; obtain ⟨x, hx, e⟩ := List.mem_map.1 hm; exact ⟨x.1, List.mem_map_of_mem hx, e⟩
  ·rintro ⟨k, hk, e⟩; obtain ⟨x, hx, e2⟩ := List.mem_map.1 hk; exact List.mem_map.2 ⟨x, hx, by rw [e2]; exact e⟩
 let τ2 : Nm → Option Value := fun nm => match look back nm.id with
  | some k => τ' ⟨k, nm.ix⟩
  | none => if pre'.elem nm.id = true then none else τ nm
 have t2a : ∀ nm k, look back nm.id = some k → τ2 nm = τ' ⟨k, nm.ix⟩ := fun nm k hk => by show (match look back nm.id with | some k => _ | none => _) = _; rw [hk]
 have t2b : ∀ nm, look back nm.id = none → τ2 nm = if pre'.elem nm.id = true then none else τ nm := fun nm hk => by show (match look back nm.id with | some k => _ | none => _) = _; rw [hk]
 -- two kinds of names
 have kinds : ∀ nm u, τ2 nm = some u → (∃ k, look back nm.id = some k ∧ τ' ⟨k, nm.ix⟩ = some u) ∨ (look back nm.id = none ∧ pre'.elem nm.id = false ∧ τ nm = some u) := fun nm u hu => by
  cases hb : look back nm.id with
  | some k => rw [t2a nm k hb] at hu; exact .inl ⟨k, rfl, hu⟩
  | none =>
   rw [t2b nm hb] at hu
   split at hu
   ·cases hu
   ·rename_i hp; exact .inr ⟨rfl, by simpa using hp, hu⟩
 have apart : ∀ nm u b, pre'.elem nm.id = false → τ nm = some u → hblk u = some b → ¬ ownB τ1 b := fun nm u b hp hu hb ho => by
  obtain ⟨nm1, u1, q1, q2, q3⟩ := ownL b ho
  have e := h.wr.inj nm _ u u1 b hu q2 hb q3
  have : pre'.elem nm.id = true := (pre_iff _).2 ⟨nm1.id, domIn nm1 q1, by rw [e]; rfl⟩
  rw [this] at hp; cases hp
 have old1 : ∀ b, ownB τ1 b → (cx.w.heap.size ≤ b ∨ cx.X b) := fun b ho => by
  obtain ⟨nm1, u1, q1, q2, q3⟩ := ownL b ho
  exact (h.wr.tlt _ u1 b q2 q3).1
 have hkeep : Keeps (ownB τ1) w w' := hr'.keeps
 let F3 : Nat → Prop := fun k => F' k ∧ ¬ V k
 have hF3 : ∀ k, F k → F3 k := fun k hk => ⟨hr'.fsup k (.inl hk), fun hv => vOwn k hv hk⟩
 have hFb : ∀ k, F k → w'.heap[k]? = w.heap[k]? := fun k hk => hkeep.block k (h.wr.fz k hk) fun ho => by
  obtain ⟨nm1, u1, q1, q2, q3⟩ := ownL k ho
  exact h.wr.fne k _ u1 hk q2 q3
 have hkept : ∀ nm u, τ2 nm = some u ∨ τ nm = some u → (((pre.map fun x => sg σ x.1).filter fun k => !(post.map fun x => sg σ x.1).elem k).elem nm.id) = false → τ nm = some u → τ2 nm = some u := by
  intro nm u _ hlost hu
  cases hb : look back nm.id with
  | none =>
   rw [t2b nm hb]
   by_cases hp : pre'.elem nm.id = true
   ·exfalso
    have hnp : post'.elem nm.id = false := by
     cases hq : post'.elem nm.id with
     | false => rfl
     | true =>
      rw [List.elem_eq_mem, decide_eq_true_iff] at hq
      obtain ⟨x, hx, e⟩ := List.mem_map.1 hq
      have := back_at x.1 (List.mem_map_of_mem hx)
      rw [e, hb] at this; cases this
    have : (((pre.map fun x => sg σ x.1).filter fun k => !(post.map fun x => sg σ x.1).elem k).elem nm.id) = true := by
     rw [List.elem_eq_mem, decide_eq_true_iff, List.mem_filter]
     rw [List.elem_eq_mem, decide_eq_true_iff] at hp
     exact ⟨hp, by show (!post'.elem nm.id) = true; rw [hnp]; rfl⟩
    rw [this] at hlost; cases hlost
   ·rw [if_neg hp]; exact hu
  | some k =>
   obtain ⟨hk1, hk2⟩ := back_some _ _ hb
   rw [t2a nm k hb]
   -- the name is there: it was lent, and has come back
   obtain ⟨o, ho⟩ := h.wr.dom nm u hu
   have hkp : k ∈ pre.map (·.1) := by
    obtain ⟨x, hx, hxe⟩ := List.mem_map.1 hk1
    have hk6 : ∀ l : List (Nat × HO), NoneAt s.heap ((pre.map (·.1)).map (sg σ)) l = true → ∀ y ∈ l, ((pre.map (·.1)).map (sg σ)).elem y.1 = true ∨ look s.heap y.1 = none := by
     intro l
     induction l with
     | nil => intro _ y hy; cases hy
     | cons z r ih =>
      intro hl y hy
      simp only [NoneAt, Bool.and_eq_true, Bool.or_eq_true, Option.isNone_iff_eq_none] at hl
      rcases List.mem_cons.1 hy with rfl | hy
      ·exact hl.1
      ·exact ih hl.2 y hy
    rcases hk6 _ k6 (sg σ x.1, x.2.sig σ) (List.mem_map.2 ⟨x, hx, rfl⟩) with hq | hq
    ·rw [List.elem_eq_mem, decide_eq_true_iff] at hq
     obtain ⟨k', hk', e⟩ := List.mem_map.1 hq
     simp only at e
     rw [hxe] at e
     rw [← inj k' k (.inl hk') (.inr hk1) e]; exact hk'
    ·simp only at hq
     rw [hxe, hk2] at hq
     have := ho.isSome
     rw [hq] at this; cases this
   have hdom : domP pre ⟨k, nm.ix⟩ := by
    obtain ⟨x, hx, hxe⟩ := List.mem_map.1 hkp
    have hlk : ∃ y, look pre k = some y := Option.isSome_iff_exists.1 ((inPre k).1 hkp)
    obtain ⟨y, hy⟩ := hlk
    have hm : (sg σ k, y.sig σ) ∈ sigH σ pre := List.mem_map.2 ⟨_, look_mem hy, rfl⟩
    have hls := allAt_look hall hm
    obtain ⟨z, g1, g2, g3⟩ := ho
    rw [← hk2, hls] at g1; injection g1 with g1; subst g1
    have : ∃ o0, Has pre ⟨k, nm.ix⟩ o0 := by
     rw [sig_at] at g2
     obtain ⟨o0, g2, _⟩ := Option.map_eq_some_iff.1 g2
     exact ⟨o0, y, hy, g2, (sig_in _ _ _).1 g3⟩
    obtain ⟨o0, h0⟩ := this
    exact domP_of h0
   have hpd : domP post ⟨k, nm.ix⟩ := keptDom_at hcl3 hdom ((inPost k).1 hk1)
   obtain ⟨o', ho'⟩ := has_of_dom hpd
   obtain ⟨v', q1, _⟩ := hr'.obj _ _ ho'
   have h1000 : 1000 ≤ k := by
    have := List.all_eq_true.1 k4 k hkp
    exact Nat.le_of_ble_eq_true this
   have q2 := hr'.old ⟨k, nm.ix⟩ v' h1000 q1
   have q3 : τ1 ⟨k, nm.ix⟩ = some v' := q2
   have e := (t1' _ _ q3).2
   have e2 : sgN σ ⟨k, nm.ix⟩ = nm := by cases nm; simp only [sgN] at hk2 ⊢; rw [hk2]
   rw [e2, hu] at e
   injection e with e; subst e; exact q1
 have hlater : ∀ (τq : Nm → Option Value) x z, Rep F w τq x z → Rep F3 w' τq x z := fun τq x z hr => hr.mono hF3 hFb (fun _ _ h => h)
 refine ⟨τ2, F3, ⟨?_, fun k hk => hr'.fz k hk.1, fun k nm u hFk hu hb => ?_, fun k hk => ?_, fun k hk => hF3 k (h.wr.fsup k hk), fun nm u b hu hb => ?_, fun nm nm' u u' b hu hu' hb hb' => ?_, fun nm o ho => ?_, fun nm u hu => ?_, fun nm u ho hu => ?_, h.wr.cxn⟩, by simp [Act.put, h.size], by simp [Act.put, h.defers], fun t y ht => ?_⟩
 ·refine ⟨hkeep.os.trans h.wr.keeps.os, hkeep.tape.trans h.wr.keeps.tape, hkeep.output.trans h.wr.keeps.output, Nat.le_trans h.wr.keeps.size hkeep.size, fun k hk hx => ?_⟩
  rw [hkeep.block k (Nat.lt_of_lt_of_le hk h.wr.keeps.size) fun ho => (old1 k ho).elim (fun h => by omega) hx]
  exact h.wr.keeps.block k hk hx
 ·rcases kinds nm u hu with ⟨k', _, hu⟩ | ⟨_, hp, hu⟩
  ·exact hr'.fne k _ u hFk.1 hu hb
  ·rcases hr'.fsub k hFk.1 with hk | hk | hk
   ·exact hk.elim (fun hk => h.wr.fne k nm u hk hu hb) (fun hk => hFk.2 hk)
   ·have := (h.wr.tlt nm u k hu hb).2
    have hk : w.heap.size ≤ k := hk
    omega
   ·exact apart nm u k hp hu hb hk
 ·have hk0 := hk.2
  rcases hr'.fsub k hk.1 with hk | hk | hk
  ·exact hk.elim (h.wr.fsub k) (fun hk => absurd hk hk0)
  ·exact .inr (.inl (Nat.le_trans h.wr.keeps.size hk))
  ·exact .inr (old1 k hk)
 ·rcases kinds nm u hu with ⟨k', _, hu⟩ | ⟨_, hp, hu⟩
  ·obtain ⟨q1, q2⟩ := hr'.tlt _ u b hu hb
   refine ⟨?_, q2⟩
   rcases q1 with q1 | q1
   ·exact .inl (Nat.le_trans h.wr.keeps.size q1)
   ·exact old1 b q1
  ·exact ⟨(h.wr.tlt nm u b hu hb).1, Nat.lt_of_lt_of_le (h.wr.tlt nm u b hu hb).2 hkeep.size⟩
 ·rcases kinds nm u hu with ⟨k1', b1, hu⟩ | ⟨b1, hp, hu⟩ <;> rcases kinds nm' u' hu' with ⟨k2', b2, hu'⟩ | ⟨b2, hp', hu'⟩
  ·have e := hr'.inj _ _ u u' b hu hu' hb hb'
   have e1 : k1' = k2' := congrArg Nm.id e
   have e2 : nm.ix = nm'.ix := by have := congrArg Nm.ix e; exact this
   have q1 := (back_some _ _ b1).2
   have q2 := (back_some _ _ b2).2
   cases nm; cases nm'; simp only at e2 q1 q2; rw [← q1, ← q2, e1, e2]
  ·exfalso
   rcases (hr'.tlt _ u b hu hb).1 with q | q
   ·have := (h.wr.tlt nm' u' b hu' hb').2
    have q : w.heap.size ≤ b := q
    omega
   ·exact apart nm' u' b hp' hu' hb' q
  ·exfalso
   rcases (hr'.tlt _ u' b hu' hb').1 with q | q
   ·have := (h.wr.tlt nm u b hu hb).2
    have q : w.heap.size ≤ b := q
    omega
   ·exact apart nm u b hp hu hb q
  ·exact h.wr.inj nm nm' u u' b hu hu' hb hb'
 ·obtain ⟨x, g1, g2, g3⟩ := ho
  simp only [St.after] at g1
  rw [look_append] at g1
  cases hp : look (sigH σ post) nm.id with
  | some y =>
   rw [hp] at g1; simp only [Option.some.injEq] at g1; subst g1
   obtain ⟨k, hk1, hk2⟩ := look_sigH_some hp
   have hls : look (sigH σ post) nm.id = (look post k).map (HO.sig σ) := by
    rw [← hk2]; exact look_sigH fun a ha e => inj a k (.inr ha) (.inr hk1) e
   rw [hp] at hls
   obtain ⟨y0, hy0, rfl⟩ := Option.map_eq_some_iff.1 hls.symm
   rw [sig_at] at g2
   obtain ⟨o0, g2', rfl⟩ := Option.map_eq_some_iff.1 g2
   have g3' := (sig_in _ _ _).1 g3
   have hh : Has post ⟨k, nm.ix⟩ o0 := ⟨y0, hy0, g2', g3'⟩
   obtain ⟨v', q1, q2⟩ := hr'.obj _ _ hh
   have hbk : look back nm.id = some k := by rw [← hk2]; exact back_at k hk1
   refine ⟨v', by rw [t2a nm k hbk]; exact q1, HOk.sig (HOk.noRo (noRo_at (noRoH_at hnp hy0) g2' g3') q2) fun nm1 u1 hu1 => ?_⟩
   have hd1 := hr'.dom nm1 u1 hu1
   obtain ⟨o1, ho1⟩ := hd1
   have : look back (sgN σ nm1).id = some nm1.id := back_at nm1.id ((inPost _).2 ho1.isSome)
   rw [t2a _ _ this]; exact hu1
  | none =>
   rw [hp] at g1
   simp only at g1
   rw [look_map (fun o : HO => o.keep fun nm => !((pre.map fun x => sg σ x.1).filter fun k => !(post.map fun x => sg σ x.1).elem k).elem nm.id), look_filterP fun k => !(pre.map fun x => sg σ x.1).elem k] at g1
   split at g1
   ·rename_i hnp
    obtain ⟨x0, hx0, rfl⟩ := Option.map_eq_some_iff.1 g1
    rw [keep_at] at g2
    obtain ⟨o0, g2', rfl⟩ := Option.map_eq_some_iff.1 g2
    have hh : Has s.heap nm o0 := ⟨x0, hx0, g2', (keep_in _ _ _).1 g3⟩
    obtain ⟨v', q1, q2⟩ := h.wr.obj nm o0 hh
    have hnp' : pre'.elem nm.id = false := by have h0 : (!pre'.elem nm.id) = true := hnp; revert h0; cases pre'.elem nm.id <;> simp
    have hbn : look back nm.id = none := by
     cases hb : look back nm.id with
     | none => rfl
     | some k =>
      obtain ⟨hk1, hk2⟩ := back_some _ _ hb
      have hls : look (sigH σ post) nm.id = (look post k).map (HO.sig σ) := by
       rw [← hk2]; exact look_sigH fun a ha e => inj a k (.inr ha) (.inr hk1) e
      obtain ⟨y, hy⟩ := Option.isSome_iff_exists.1 ((inPost k).1 hk1)
      rw [hp, hy] at hls; cases hls
    refine ⟨v', by rw [t2b nm hbn, hnp']; exact q1, ?_⟩
    have r1 : HOk F3 w' τ o0 v' := q2.mono hF3 hFb (fun _ _ h => h) fun b hb => hkeep.block b (h.wr.tlt nm v' b q1 hb).2 (apart nm v' b hnp' q1 hb)
    exact keep_hok2 (fun id hid u hu => hkept id u (.inr hu) (by simpa using hid) hu) r1
   ·cases g1
 ·rcases kinds nm u hu with ⟨k', b1, hu⟩ | ⟨b1, hp, hu⟩
  ·obtain ⟨o', ho'⟩ := hr'.dom _ u hu
   obtain ⟨y, g1, g2, g3⟩ := ho'
   obtain ⟨hk1, hk2⟩ := back_some _ _ b1
   refine ⟨o'.sig σ, y.sig σ, ?_, by rw [sig_at]; show (y.at_ nm.ix).map _ = _; rw [g2]; rfl, (sig_in _ _ _).2 g3⟩
   have hls : look (sigH σ post) nm.id = (look post k').map (HO.sig σ) := by
    rw [← hk2]; exact look_sigH fun a ha e => inj a k' (.inr ha) (.inr hk1) e
   simp only [St.after, look_append]
   rw [hls, show look post k' = some y from g1]; rfl
  ·obtain ⟨o', ho'⟩ := h.wr.dom nm u hu
   obtain ⟨y, g1, g2, g3⟩ := ho'
   refine ⟨_, y.keep (fun nm => !((pre.map fun x => sg σ x.1).filter fun k => !(post.map fun x => sg σ x.1).elem k).elem nm.id), ?_, by rw [keep_at, g2]; rfl, (keep_in _ _ _).2 g3⟩
   have hpn : look (sigH σ post) nm.id = none := by
    cases hq : look (sigH σ post) nm.id with
    | none => rfl
    | some z =>
     obtain ⟨k, hk1, hk2⟩ := look_sigH_some hq
     have := back_at k hk1
     rw [hk2, b1] at this; cases this
   simp only [St.after, look_append]
   rw [hpn]
   simp only
   rw [look_map (fun o : HO => o.keep fun nm => !((pre.map fun x => sg σ x.1).filter fun k => !(post.map fun x => sg σ x.1).elem k).elem nm.id), look_filterP fun k => !(pre.map fun x => sg σ x.1).elem k]
   have hp2 : (!(pre.map fun x => sg σ x.1).elem nm.id) = true := by
    have : (pre.map fun x => sg σ x.1).elem nm.id = false := hp
    rw [this]; rfl
   rw [if_pos hp2, g1]; rfl
 ·rcases kinds nm u hu with ⟨k', b1, hu⟩ | ⟨b1, hp, hu⟩
  ·obtain ⟨hk1, hk2⟩ := back_some _ _ b1
   by_cases hkp : k' ∈ pre.map (·.1)
   ·have h1000 : 1000 ≤ k' := Nat.le_of_ble_eq_true (List.all_eq_true.1 k4 k' hkp)
    have q3 : τ1 ⟨k', nm.ix⟩ = some u := hr'.old ⟨k', nm.ix⟩ u h1000 hu
    have e := (t1' _ _ q3).2
    have e2 : sgN σ ⟨k', nm.ix⟩ = nm := by cases nm; simp only [sgN] at hk2 ⊢; rw [hk2]
    rw [e2] at e
    exact h.wr.old nm u ho e
   ·exfalso
    have := List.all_eq_true.1 k7 k' hk1
    simp only [Bool.or_eq_true] at this
    rcases this with q | q
    ·rw [List.elem_eq_mem, decide_eq_true_iff] at q; exact hkp q
    ·have := blt_lt0 q; omega
  ·exact h.wr.old nm u ho hu
 ·simp only [St.after] at ht
  rw [look_cons] at ht
  have hdsz : d < a.tmps.size := by rw [h.size]; exact hd
  split at ht
  ·rename_i e0; subst e0; injection ht with ht; subst ht
   refine ⟨hd, ?_⟩
   have : (a.tmps.setIfInBounds t v).getD t undef = v := by simp [hdsz]
   simp only [Act.put]; rw [this]
   refine (Rep.noRo hnr hv).sig fun nm1 u1 hu1 => ?_
   obtain ⟨o1, ho1⟩ := hr'.dom nm1 u1 hu1
   have : look back (sgN σ nm1).id = some nm1.id := back_at nm1.id ((inPost _).2 ho1.isSome)
   rw [t2a _ _ this]; exact hu1
  ·rename_i e0
   rw [look_map (fun x : AV => x.keep fun nm => !((pre.map fun x => sg σ x.1).filter fun k => !(post.map fun x => sg σ x.1).elem k).elem nm.id)] at ht
   obtain ⟨y0, hy0, rfl⟩ := Option.map_eq_some_iff.1 ht
   obtain ⟨h1, h2⟩ := h.env t y0 hy0
   refine ⟨h1, ?_⟩
   have : (a.tmps.setIfInBounds d v).getD t undef = a.tmps.getD t undef := by
    simp only [Array.getD_eq_getD_getElem?]
    rw [Array.getElem?_setIfInBounds_ne (by omega)]
   simp only [Act.put]; rw [this]
   exact keep_rep2 (fun id hid u hu => hkept id u (.inr hu) (by simpa using hid) hu) (hlater _ _ _ h2)
end Go.Abs
namespace Go.Abs
open Go Go.RowKit
set_option linter.unusedVariables false
set_option linter.unusedSimpArgs false
def Exact (x : AV) (v : Value) : Prop := ∀ F w τ, Rep F w τ x v ∧ ∀ u, Rep F w τ x u → u = v
mutual
theorem exact_spec : ∀ (x : AV) (v : Value), x.exact = some v → Exact x v
 | .val v, u, h => by
  simp only [AV.exact, Option.some.injEq] at h; subst h
  exact fun F w τ => ⟨.val _ _, fun u hu => by cases hu; rfl⟩
 | .agg cs, u, h => by
  simp only [AV.exact, Option.map_eq_some_iff] at h
  obtain ⟨vs, h, rfl⟩ := h
  obtain ⟨hl, hs⟩ := exactL_spec cs vs h
  refine fun F w τ => ⟨.agg _ _ _ (by simpa using hl.symm) (fun j c hc => ?_), fun u hu => ?_⟩
  ·have := (hs j c hc F w τ).1; simpa using this
  ·cases hu with
   | agg _ _ us ul uh =>
    congr 1
    apply Array.ext
    ·simp [← ul, ← hl]
    ·intro j h1 h2
     have hj : j < cs.length := by omega
     have e := (hs j _ (List.getElem?_eq_getElem hj) F w τ).2 _ (uh j _ (List.getElem?_eq_getElem hj))
     have h3 : j < vs.length := by omega
     simp [h1, h3] at e
     simpa using e
 | .tup cs, u, h => by
  simp only [AV.exact, Option.map_eq_some_iff] at h
  obtain ⟨vs, h, rfl⟩ := h
  obtain ⟨hl, hs⟩ := exactL_spec cs vs h
  refine fun F w τ => ⟨.tup _ _ _ (by simpa using hl.symm) (fun j c hc => ?_), fun u hu => ?_⟩
  ·have := (hs j c hc F w τ).1; simpa using this
  ·cases hu with
   | tup _ _ us ul uh =>
    congr 1
    apply Array.ext
    ·simp [← ul, ← hl]
    ·intro j h1 h2
     have hj : j < cs.length := by omega
     have e := (hs j _ (List.getElem?_eq_getElem hj) F w τ).2 _ (uh j _ (List.getElem?_eq_getElem hj))
     have h3 : j < vs.length := by omega
     simp [h1, h3] at e
     simpa using e
 | .ro _ _ _, u, h => by simp [AV.exact] at h
 | .ptr _, u, h => by simp [AV.exact] at h
 | .obj _ _, u, h => by simp [AV.exact] at h
 | .sl _ _, u, h => by simp [AV.exact] at h
 | .so _ _ _ _, u, h => by simp [AV.exact] at h
 | .rp _ _ _ _, u, h => by simp [AV.exact] at h
 | .fn _ _, u, h => by simp [AV.exact] at h
 | .cond _ _, u, h => by simp [AV.exact] at h
 | .any, u, h => by simp [AV.exact] at h
theorem exactL_spec : ∀ (cs : List AV) (vs : List Value), AV.exactL cs = some vs → vs.length = cs.length ∧ ∀ (j : Nat) (c : AV), cs[j]? = some c → Exact c (vs.getD j undef)
 | [], vs, h => by simp only [AV.exactL, Option.some.injEq] at h; subst h; exact ⟨rfl, fun j c hc => by simp at hc⟩
 | x :: r, vs, h => by
  simp only [AV.exactL] at h
  split at h
  ·rename_i v vs' hv hvs
   injection h with h; subst h
   obtain ⟨hl, hs⟩ := exactL_spec r vs' hvs
   refine ⟨by simp [hl], fun j c hc => ?_⟩
   cases j with
   | zero => simp at hc; subst hc; exact exact_spec x v hv
   | succ j => simpa using hs j c (by simpa using hc)
  ·cases h
end
theorem blt_lt {a b : Nat} (h : Nat.blt a b = true) : a < b := by simpa [Nat.blt_eq] using h
theorem fnB_call {P : Program} {f : FuncId} (h : fnB P f = true) (args : Array Value) (w : World) : (callFunc f args).run P w = .ok (.enter f args) w := by
 unfold fnB at h
 split at h
 ·rename_i fn hf
  simp only [Bool.and_eq_true, bne_iff_ne, ne_eq] at h
  have h2 : fn.body.isNone = false := by simpa using h.2
  have h3 : (fn.name == "runtime.NumGoroutine") = false := by simpa using h.1
  simp only [callFunc, Sem.run_bind, run_program, Result.andThen_ok, hf, h3, h2]
  rfl
 ·cases h
theorem call_run {P : Program} {f : FuncId} (h : fnB P f = true) {a : Act} {o : Oper} {x : Operand} {caps : Array Value} (hx : a.eval x = .func (.func f) #[] caps) {as : Array Operand} {ts : Array TypeId} (ho : o.op = .call { callee := .value x, args := as, argTypes := ts }) (w : World) :
  (execOp a.eval o).run P w = .ok (.enter f (as.map a.eval ++ caps)) w := by
 simp only [execOp, ho, Sem.run_bind, resolve, hx, Deferred.ofValue, Sem.run_pure, Result.andThen_ok, invoke, Array.empty_append]
 exact fnB_call h _ w
theorem all_rep {F : Nat → Prop} {τ : Nm → Option Value} {w : World} {a : Act} {as : Array Operand} {ys caps : List AV} {cv : Array Value} (hl : ys.length = as.toList.length) (hcl : caps.length = cv.size)
  (hr : ∀ (j : Nat) (y : AV), ys[j]? = some y → ∃ x, as.toList[j]? = some x ∧ Rep F w τ y (a.eval x)) (hc : ∀ (j : Nat) (c : AV), caps[j]? = some c → Rep F w τ c (cv.getD j undef)) :
  (as.map a.eval ++ cv).toList.length = (ys ++ caps).length ∧ ∀ (j : Nat) (y : AV), (ys ++ caps)[j]? = some y → Rep F w τ y ((as.map a.eval ++ cv).toList.getD j undef) := by
 have hl' : as.size = ys.length := by simpa using hl.symm
 refine ⟨by simp [hl', hcl], fun j y hy => ?_⟩
 by_cases hj : j < ys.length
 ·rw [List.getElem?_append_left hj] at hy
  obtain ⟨o, ho, hro⟩ := hr j y hy
  have ho' : as[j]? = some o := by simpa using ho
  have : (as.map a.eval ++ cv).toList.getD j undef = a.eval o := by
   rw [Array.toList_append, List.getD_eq_getElem?_getD, List.getElem?_append_left (by simp; omega)]
   simp [ho']
  rw [this]; exact hro
 ·rw [List.getElem?_append_right (by omega)] at hy
  have : (as.map a.eval ++ cv).toList.getD j undef = cv.getD (j - ys.length) undef := by
   rw [Array.toList_append, List.getD_eq_getElem?_getD, List.getElem?_append_right (by simp; omega)]
   simp [hl', Array.getD_eq_getD_getElem?]
  rw [this]; exact hc _ y hy
theorem fnv_sound {x : AV} {K : Nat → List AV → Prop} (h : fnv x K) : ∃ f caps, K f caps ∧ ∀ F τ w v, Rep F w τ x v → ∃ cv : Array Value, v = .func (.func f) #[] cv ∧ caps.length = cv.size ∧ ∀ (j : Nat) (c : AV), caps[j]? = some c → Rep F w τ c (cv.getD j undef) := by
 unfold fnv at h
 split at h
 ·rename_i f caps
  refine ⟨f, caps, h, fun F τ w v hr => ?_⟩
  cases hr with
  | fn _ _ _ vs h1 h2 => exact ⟨vs, rfl, h1, h2⟩
 ·rename_i f
  refine ⟨f, [], h, fun F τ w v hr => ?_⟩
  cases hr
  exact ⟨#[], rfl, rfl, fun j c hc => by simp at hc⟩
 ·exact h.elim
theorem lent_rep {cx : Cx} {F : Nat → Prop} {τ : Nm → Option Value} {s : St} {w : World} (hw : RelW cx τ F s w) : ∀ (ys : List AV), AV.pureL (borrowL s ys).1 = true →
  ∃ F1 : Nat → Prop, (∀ k, F k → F1 k) ∧ (∀ k, F1 k → k < w.heap.size) ∧ ((borrowL s ys).2 = false → ∀ k, F1 k → F k) ∧ (borrowL s ys).1.length = ys.length ∧
   ∀ (vs : List Value), (∀ (j : Nat) (y : AV), ys[j]? = some y → Rep F w τ y (vs.getD j undef)) → ∀ (j : Nat) (x : AV), (borrowL s ys).1[j]? = some x → Rep F1 w (fun _ => none) x (vs.getD j undef)
 | [], _ => ⟨F, fun _ h => h, hw.fz, fun _ _ h => h, rfl, fun _ _ j x h => by simp [borrowL] at h⟩
 | y :: r, hp => by
  simp only [borrowL, AV.pureL, Bool.and_eq_true] at hp
  obtain ⟨F1, q1, q2, q3, q4, q5⟩ := lent_rep hw r hp.2
  have one : ∃ F2 : Nat → Prop, (∀ k, F k → F2 k) ∧ (∀ k, F2 k → k < w.heap.size) ∧ ((borrow s y).2 = false → ∀ k, F2 k → F k) ∧ ∀ v, Rep F w τ y v → Rep F2 w (fun _ => none) (borrow s y).1 v := by
   have same : (borrow s y) = (y, false) → ∃ F2 : Nat → Prop, (∀ k, F k → F2 k) ∧ (∀ k, F2 k → k < w.heap.size) ∧ ((borrow s y).2 = false → ∀ k, F2 k → F k) ∧ ∀ v, Rep F w τ y v → Rep F2 w (fun _ => none) (borrow s y).1 v := fun e =>
    ⟨F, fun _ h => h, hw.fz, fun _ _ h => h, fun v hv => by rw [e] at hp ⊢; exact hv.pure hp.1⟩
   cases hy : y with
   | sl nm m =>
    obtain ⟨id, ix⟩ := nm
    cases ix with
    | cons i r => rw [← hy]; exact same (by rw [hy]; rfl)
    | nil =>
    cases hl : look s.heap id with
    | none => rw [← hy]; exact same (by rw [hy]; simp [borrow, hl])
    | some o =>
     cases o with
     | cells cs => rw [← hy]; exact same (by rw [hy]; simp [borrow, hl])
     | rows e esz n f => rw [← hy]; exact same (by rw [hy]; simp [borrow, hl])
     | fam D f => rw [← hy]; exact same (by rw [hy]; simp [borrow, hl])
     | row e esz n f =>
      have e1 : borrow s (.sl ⟨id, []⟩ m) = (.ro esz m f, true) := by simp [borrow, hl]
      rw [e1]
      obtain ⟨u, r1, r2⟩ := hw.obj ⟨id, []⟩ _ (Has.of_look hl rfl)
      refine ⟨fun k => F k ∨ hblk u = some k, fun k hk => .inl hk, fun k hk => ?_, fun h => by simp at h, fun v hv => ?_⟩
      ·rcases hk with hk | hk
       ·exact hw.fz k hk
       ·exact (hw.tlt ⟨id, []⟩ u k r1 hk).2
      ·cases hv with
       | sl _ _ _ A n' c hτ hn hc hA =>
        rw [hτ] at r1; injection r1 with r1; subst r1
        obtain ⟨xs, p1, p2, p3⟩ := r2
        have hnn := own_form p1
        subst hnn
        refine .ro _ _ _ _ _ _ (fun i j => xs.getD (i * esz + j) undef) (by omega) ?_ (fun hm => ?_) (fun i hi => p2 i (by omega)) (fun i j x hi hx => (p3 i j x (by omega) hx).mono (fun _ h => .inl h) (fun _ _ => rfl) (fun _ _ h => by cases h))
        ·rcases p1.2 with ⟨h', h0⟩ | ⟨g, cap, cur, hv, _, hg, hnc, hcm, hcs, htk⟩
         ·simp only [Value.slice.injEq] at h'; omega
         ·simp only [Value.slice.injEq] at hv; omega
        ·rcases p1.2 with ⟨h', h0⟩ | ⟨g, cap, cur, hv, _, hg, hnc, hcm, hcs, htk⟩
         ·omega
         ·simp only [Value.slice.injEq] at hv
          obtain ⟨rfl, _, rfl⟩ := hv
          refine ⟨g, 0, rfl, .inr rfl, fun i j hi hj => ?_⟩
          have hlt : i * esz + j < n' * esz := by
           have : (i + 1) * esz ≤ n' * esz := Nat.mul_le_mul_right _ (by omega)
           rw [Nat.add_mul, Nat.one_mul] at this; omega
          rw [cell_of_row _ _ _ _ _ _ hg]
          have hx : cur[0 + i * esz + j]? = xs[i * esz + j]? := by
           rw [← htk, List.getElem?_take, if_pos hlt]; simp
          rw [hx]
          have : i * esz + j < xs.length := by rw [p1.1]; exact hlt
          simp [List.getElem?_eq_getElem this]
   | so nm z off m =>
    obtain ⟨id, ix⟩ := nm
    cases ix with
    | cons i r => rw [← hy]; exact same (by rw [hy]; rfl)
    | nil =>
    cases hl : look s.heap id with
    | none => rw [← hy]; exact same (by rw [hy]; simp [borrow, hl])
    | some o =>
     cases o with
     | cells cs => rw [← hy]; exact same (by rw [hy]; simp [borrow, hl])
     | rows e esz n f => rw [← hy]; exact same (by rw [hy]; simp [borrow, hl])
     | fam D f => rw [← hy]; exact same (by rw [hy]; simp [borrow, hl])
     | row e esz n f =>
      cases hz : Nat.beq z esz with
      | false => rw [← hy]; exact same (by rw [hy]; simp only [borrow, hl, hz])
      | true =>
      have hzz := Nat.eq_of_beq_eq_true hz
      subst hzz
      have e1 : borrow s (.so ⟨id, []⟩ z off m) = (.ro z m (fun i => f (off + i)), true) := by simp only [borrow, hl, hz]
      rw [e1]
      obtain ⟨u, r1, r2⟩ := hw.obj ⟨id, []⟩ _ (Has.of_look hl rfl)
      refine ⟨fun k => F k ∨ hblk u = some k, fun k hk => .inl hk, fun k hk => ?_, fun h => by simp at h, fun v hv => ?_⟩
      ·rcases hk with hk | hk
       ·exact hw.fz k hk
       ·exact (hw.tlt ⟨id, []⟩ u k r1 hk).2
      ·cases hv with
       | so _ _ _ _ _ A n' c Z hτ hn hc hA hZ hZ2 =>
        rw [hτ] at r1; injection r1 with r1; subst r1
        obtain ⟨xs, p1, p2, p3⟩ := r2
        have hnn := own_form p1
        subst hnn
        refine .ro _ _ _ _ _ _ (fun i j => xs.getD ((off + i) * z + j) undef) (by omega) ?_ (fun hm => ?_) (fun i hi => p2 _ (by omega)) (fun i j x hi hx => (p3 (off + i) j x (by omega) hx).mono (fun _ h => .inl h) (fun _ _ => rfl) (fun _ _ h => by cases h))
        ·rcases p1.2 with ⟨h', h0⟩ | ⟨g, cap, cur, hv, _, hg, hnc, hcm, hcs, htk⟩
         ·simp only [Value.slice.injEq] at h'; omega
         ·simp only [Value.slice.injEq] at hv; omega
        ·rcases p1.2 with ⟨h', h0⟩ | ⟨g, cap, cur, hv, _, hg, hnc, hcm, hcs, htk⟩
         ·omega
         ·simp only [Value.slice.injEq] at hv
          obtain ⟨rfl, _, rfl⟩ := hv
          rw [hZ (by omega)]
          refine ⟨g, off * z, by simp [add_none], .inr rfl, fun i j hi hj => ?_⟩
          have hlt : (off + i) * z + j < n' * z := by
           have : (off + i + 1) * z ≤ n' * z := Nat.mul_le_mul_right _ (by omega)
           rw [Nat.add_mul, Nat.one_mul] at this; omega
          rw [cell_of_row _ _ _ _ _ _ hg]
          have e2 : off * z + i * z + j = (off + i) * z + j := by rw [Nat.add_mul]
          rw [e2]
          have hx : cur[(off + i) * z + j]? = xs[(off + i) * z + j]? := by
           rw [← htk, List.getElem?_take, if_pos hlt]; simp
          rw [hx]
          have : (off + i) * z + j < xs.length := by rw [p1.1]; exact hlt
          simp [List.getElem?_eq_getElem this]
   | _ => rw [← hy]; exact same (by rw [hy]; rfl)
  obtain ⟨F2, r1, r2, r3, r4⟩ := one
  refine ⟨fun k => F1 k ∨ F2 k, fun k hk => .inl (q1 k hk), fun k hk => hk.elim (q2 k) (r2 k), fun hb k hk => ?_, by simp [borrowL, q4], fun vs hvs j x hx => ?_⟩
  ·simp only [borrowL, Bool.or_eq_false_iff] at hb
   exact hk.elim (q3 hb.2 k) (r3 hb.1 k)
  ·simp only [borrowL] at hx
   cases j with
   | zero =>
    simp at hx; subst hx
    exact (r4 _ (hvs 0 y rfl)).mono (fun _ h => .inr h) (fun _ _ => rfl) (fun _ _ h => by cases h)
   | succ j =>
    have := q5 (vs.drop 1) (fun j y hy => by
     have := hvs (j + 1) y (by simpa using hy)
     simpa [List.getD_eq_getElem?_getD, List.getElem?_drop, Nat.add_comm] using this) j x (by simpa using hx)
    have e : (vs.drop 1).getD j undef = vs.getD (j + 1) undef := by simp [List.getD_eq_getElem?_getD, List.getElem?_drop, Nat.add_comm]
    rw [e] at this
    exact this.mono (fun _ h => .inl h) (fun _ _ => rfl) (fun _ _ h => by cases h)
theorem RelA.called {cx τ F F' s a w w'} (h : RelA cx τ F s a w) (hb : Below w.heap.size w w') (h1 : ∀ k, F k → F' k) (h2 : ∀ k, F' k → F k ∨ w.heap.size ≤ k) (h3 : ∀ k, F' k → k < w'.heap.size) : RelA cx τ F' s a w' := by
 refine (h.later hb).more h1 h3 (fun k id v hk hv e => ?_) (fun k hk => ?_)
 ·rcases h2 k hk with h' | h'
  ·exact h.wr.fne k id v h' hv e
  ·have := (h.wr.tlt id v k hv e).2; omega
 ·rcases h2 k hk with h' | h'
  ·exact h.wr.fsub k h'
  ·exact .inr (.inl (Nat.le_trans h.wr.keeps.size h'))
theorem zero_run {P : Program} {t : Nat} {vs : List Value} (h : zeroCells P t = some vs) (w : World) : (Instr.alloc t true (.tuple #[])).run P w = .ok (.pointer (some ⟨w.heap.size, 0, none⟩)) (w.alloc (.cells vs.toArray t)) := by
 unfold zeroCells at h
 cases hi : P.info? t with
 | none => rw [hi] at h; cases h
 | some i =>
  cases hz : i.zero with
  | none => rw [hi] at h; simp [hz] at h
  | some z =>
   rw [hi] at h; simp [hz] at h
   subst h
   simp [Instr.alloc, zeroValue, typeInfo, hi, hz, newVar, newRow]
theorem size1 {P : Program} {t : Nat} (h : (match P.info? t with | some i => i.size == 1 | none => false) = true) : ∃ i, P.info? t = some i ∧ i.size = 1 := by
 split at h
 ·rename_i i hi; exact ⟨i, hi, by simpa using h⟩
 ·cases h
theorem aggSize_info {P : Program} {t : Nat} {ti : TI} (hnl : ∀ t lv, ti ≠ .leaves t lv) (h : ti.okB P t = true) : ∃ i, P.info? t = some i ∧ i.size = ti.aggSize := by
 cases ti with
 | leaves t lv => exact absurd rfl (hnl t lv)
 | scalar => simp only [TI.okB, Bool.and_eq_true] at h; exact size1 h.2
 | int k => simp only [TI.okB, Bool.and_eq_true] at h; exact size1 h.2
 | str => simp only [TI.okB, Bool.and_eq_true] at h; exact size1 h.2
 | bool => simp only [TI.okB, Bool.and_eq_true] at h; exact size1 h.2
 | slice e n _ => simp only [TI.okB, Bool.and_eq_true] at h; exact size1 h.2
 | struct size offs => obtain ⟨fs, i, _, h1, h2, _⟩ := ok_struct h; exact ⟨i, h1, h2⟩
 | array n e _ => obtain ⟨_, _, j, _, _, _, h1, h2, _⟩ := ok_array h; exact ⟨j, h1, h2⟩
theorem box_new {cx τ F s a w} (h : RelA cx τ F s a w) {d : Nat} (hd : d < cx.n) (hf : look s.heap d = none) {cs : List AV} {c : Array Value} (t : Nat) (hsz : c.size = cs.length)
  (hrep : ∀ (j : Nat) (x : AV), cs[j]? = some x → Rep F w τ x (c.getD j undef)) :
  Rel cx (s.new d (.obj ⟨d, []⟩ 0) (.cells cs)) (a.put (some d) (.pointer (some ⟨w.heap.size, 0, none⟩))) (w.alloc (.cells c t)) := by
 have hb := below_alloc w (.cells c t)
 refine h.new hd hf rfl (v := .pointer (some ⟨w.heap.size, 0, none⟩)) hb (fun b hb => ?_) (fun τ' hτ hτd => ⟨⟨w.heap.size, c, t, rfl, heap_alloc_new w _, hsz, fun j x hx => ?_⟩, .obj _ _ _ _ hτd⟩)
 ·simp only [hblk, Option.some.injEq] at hb; subst hb; simp
 ·exact (hrep j x hx).mono (fun _ h => h) (fun k hk => hb.block k (h.wr.fz k hk)) hτ
theorem aop_sound (B : Tabs) {cx : Cx} (hP : cx.P = B.P) {s : St} {o : Oper} {K : St → Prop} (h : aop B cx.n s o.op o.dst K) {a : Act} {w : World} (hr : Rel cx s a w)
  {next : Act → World → Prop} {Q : Exit → Act → World → Prop} (hn : ∀ s' a' w', K s' → Rel cx s' a' w' → next a' w') : o.wp cx.P a w next Q := by
 obtain ⟨τ, F, hr⟩ := hr
 rw [hP]
 have quiet : ∀ d, o.dst = some d → chk (Nat.blt d cx.n) (qop B true s o.op fun y => K (s.put d y)) → o.wp B.P a w next Q := by
  intro d hdst h
  obtain ⟨hd, h⟩ := chk_spec h
  have hd := blt_lt hd
  obtain ⟨y, hy, hs⟩ := qop_sound B h
  obtain ⟨v, h1, h2⟩ := hs cx τ F w a rfl hr
  unfold Oper.wp
  rw [h2 o rfl w (Same.refl _ _ _), Oper.upon_value, hdst]
  exact hn _ _ _ hy ⟨τ, F, hr.put d y v h1 hd⟩
 unfold aop at h
 split at h
 case h_1 x as ts d hop hdst =>
  obtain ⟨hd, h⟩ := chk_spec h
  have hd := blt_lt hd
  obtain ⟨fv, h, hfv⟩ := aget_sound h
  obtain ⟨f, caps, h, hfn0⟩ := fnv_sound h
  obtain ⟨ys, h, hl, hs⟩ := agets_sound h
  obtain ⟨cv, hxv, hcl, hcr⟩ := hfn0 F τ w _ (hfv F τ w cx.n a rfl hr.env)
  obtain ⟨l1, hargs⟩ := all_rep hl hcl (hs F τ w cx.n a rfl hr.env) hcr
  rcases h with ⟨hp, y, ⟨hfn, hcall⟩, hpy, hK⟩ | ⟨sp, σ, hcm, hys, hall, hsok, hK⟩ | ⟨hp, hnb, R, ⟨hfn, hcall⟩, hK⟩ | ⟨args, pre, R, σ, hcm, hys, hall, hpre, hK⟩ | ⟨sp, σ, V, hcm, hys, hall, hsok, hvb, hnp, hK⟩
  ·simp only [Bool.and_eq_true, Bool.or_eq_true, Bool.not_eq_true'] at hpy
   obtain ⟨hpy, hex⟩ := hpy
   obtain ⟨F1, f1, f2, f3, f4, f5⟩ := lent_rep hr.wr (ys ++ caps) hp
   unfold Oper.wp
   rw [call_run hfn hxv hop, Oper.upon_enter]
   have := hcall F1 w (as.map a.eval ++ cv).toList f2 (by rw [f4]; exact l1) (f5 _ hargs)
   rw [Array.toArray_toList] at this
   refine this.mono fun e w' ⟨v, F', he, hb, q1, q2, q3, q4⟩ => ?_
   subst he
   show next (a.put o.dst v) w'
   rw [hdst]
   rcases hex with hex | hex
   ·have hback := f3 hex
    exact hn _ _ _ hK ⟨τ, F', (hr.called hb (fun k hk => q1 k (f1 k hk)) (fun k hk => (q2 k hk).imp (hback k) id) q3).put d y v (q4.pure hpy) hd⟩
   ·obtain ⟨u, hu⟩ := Option.isSome_iff_exists.1 hex
    have hue := exact_spec y u hu
    have huv := (hue F' w' (fun _ => none)).2 v q4
    subst huv
    exact hn _ _ _ hK ⟨τ, F, (hr.later hb).put d y v (hue F w' τ).1 hd⟩
  ·have hfn := hcm.1
   unfold Oper.wp
   rw [call_run hfn hxv hop, Oper.upon_enter]
   have := hr.callM hcm hys hall hsok hd l1 hargs
   rw [Array.toArray_toList] at this
   refine this.mono fun e w' ⟨v, he, hR⟩ => ?_
   subst he
   show next (a.put o.dst v) w'
   rw [hdst]
   exact hn _ _ _ hK hR
  ·obtain ⟨F1, f1, f2, f3, f4, f5⟩ := lent_rep hr.wr (ys ++ caps) hp
   unfold Oper.wp
   rw [call_run hfn hxv hop, Oper.upon_enter]
   have := hcall F1 w (as.map a.eval ++ cv).toList f2 (by rw [f4]; exact l1) (f5 _ hargs)
   rw [Array.toArray_toList] at this
   refine this.mono fun e w' ⟨v, F', y, hRy, he, hb, q1, q2, q3, q4⟩ => ?_
   subst he
   show next (a.put o.dst v) w'
   rw [hdst]
   obtain ⟨hpy, hKy⟩ := hK y hRy
   have hback := f3 hnb
   exact hn _ _ _ hKy ⟨τ, F', (hr.called hb (fun k hk => q1 k (f1 k hk)) (fun k hk => (q2 k hk).imp (hback k) id) q3).put d y v (q4.pure hpy) hd⟩
  ·have hfn := hcm.1
   unfold Oper.wp
   rw [call_run hfn hxv hop, Oper.upon_enter]
   have := hr.callR hcm hys hall hpre (fun res post hR => (hK res post hR).1) hd l1 hargs
   rw [Array.toArray_toList] at this
   refine this.mono fun e w' ⟨v, res, post, hRr, he, hR⟩ => ?_
   subst he
   show next (a.put o.dst v) w'
   rw [hdst]
   exact hn _ _ _ (hK res post hRr).2 hR
  ·have hfn := hcm.1
   unfold Oper.wp
   rw [call_run hfn hxv hop, Oper.upon_enter]
   simp only [viewB, Bool.and_eq_true] at hvb
   have hlen : sp.args.length = (ys ++ caps).length := by
    have := congrArg List.length hys
    rw [List.length_map, sigL_len] at this; exact this.symm
   have := hr.callV hcm hvb.2 hnp (σ := σ) (V := fun k => ∃ id, V.elem id = true ∧ ∃ u, τ ⟨id, []⟩ = some u ∧ hblk u = some k) (fun b ⟨id, h1, u, h2, h3⟩ => ⟨⟨id, []⟩, u, h2, h3, by
    have := List.all_eq_true.1 hvb.1 id (by simpa [List.elem_eq_mem] using h1)
    simpa using this⟩) hall hsok hd (vs := (as.map a.eval ++ cv).toList) (l1.trans hlen.symm) (fun j x hx => by
    have h1 : ((ys ++ caps).map (viewA s V))[j]? = some (x.sig σ) := by rw [hys, sigL_get, hx]; rfl
    rw [List.getElem?_map] at h1
    obtain ⟨y, h2, h3⟩ := Option.map_eq_some_iff.1 h1
    rw [← h3]
    exact view_rep hr.wr V (hargs j y h2))
   rw [Array.toArray_toList] at this
   refine this.mono fun e w' ⟨v, he, hR⟩ => ?_
   subst he
   show next (a.put o.dst v) w'
   rw [hdst]
   exact hn _ _ _ hK hR
 case h_2 t d hop hdst =>
  obtain ⟨hd, h⟩ := chk_spec h
  have hd := blt_lt hd
  obtain ⟨hf, h⟩ := chk_spec h
  have hf := Option.isNone_iff_eq_none.1 hf
  split at h
  ·rename_i vs hl
   have hz := B.hZ.at_ hl
   unfold Oper.wp
   simp only [execOp, hop]
   rw [exec_value (zero_run hz w), Oper.upon_value, hdst]
   refine hn _ _ _ h (box_new hr hd hf t (by simp) fun j x hx => ?_)
   rw [List.getElem?_map] at hx
   cases hv : vs[j]? with
   | none => rw [hv] at hx; cases hx
   | some v =>
    rw [hv] at hx; injection hx with hx; subst hx
    have : vs.toArray.getD j undef = v := by simp [hv]
    rw [this]; exact .val _ _
  ·exact h.elim
 case h_3 t x d hop hdst =>
  obtain ⟨hd, h⟩ := chk_spec h
  have hd := blt_lt hd
  obtain ⟨hf, h⟩ := chk_spec h
  have hf := Option.isNone_iff_eq_none.1 hf
  obtain ⟨xv, h, hx⟩ := aget_sound h
  obtain ⟨cs, h, hc⟩ := cellsV_sound h
  obtain ⟨hsz, hrep⟩ := hc F w τ _ (hx F τ w cx.n a rfl hr.env)
  unfold Oper.wp
  simp only [execOp, hop]
  have hrun : (Instr.box t (a.eval x)).run B.P w = .ok (.pointer (some ⟨w.heap.size, 0, none⟩)) (w.alloc (.cells (a.eval x).cells t)) := by
   simp [Instr.box, newVar, newRow]
  rw [exec_value hrun, Oper.upon_value, hdst]
  exact hn _ _ _ h (box_new hr hd hf t hsz hrep)
 case h_4 t len parts d hop hdst =>
  obtain ⟨hd, h⟩ := chk_spec h
  have hd := blt_lt hd
  obtain ⟨hf, h⟩ := chk_spec h
  have hf := Option.isNone_iff_eq_none.1 hf
  split at h
  ·rename_i e esz by_ hl
   split at h
   ·rename_i zs hlz
    obtain ⟨c1, h⟩ := chk_spec h
    obtain ⟨c2, h⟩ := chk_spec h
    obtain ⟨c3, h⟩ := chk_spec h
    obtain ⟨rows, hK, hrl, hps⟩ := partsV_sound h
    have hK := mkK_spec hK
    obtain ⟨vs, p1, p2, p3, p4⟩ := hps F τ w cx.n a hr.env
    have hz := B.hZ.at_ hlz
    obtain ⟨v, w', q1, q2⟩ := build_new hr hd hf (by rw [hP]; exact tabB_look B.hT hl) (by rw [hP]; exact hz) (Nat.eq_of_beq_eq_true c2) (Nat.le_of_ble_eq_true c3) p1 p2 p3 p4 (!(rows.all AV.pureL)) (fun hq i => by
     have hq : rows.all AV.pureL = true := by simpa using hq
     rw [List.getD_eq_getElem?_getD]
     cases hg : rows[i]? with
     | none => rfl
     | some cs => exact List.all_eq_true.1 hq cs (List.mem_of_getElem? hg))
    unfold Oper.wp
    simp only [execOp, hop]
    rw [hP] at q1
    rw [exec_value q1, Oper.upon_value, hdst]
    exact hn _ _ _ hK q2
   ·exact h.elim
  ·exact h.elim
 case h_5 t l c d hop hdst =>
  obtain ⟨hd, h⟩ := chk_spec h
  have hd := blt_lt hd
  obtain ⟨hf, h⟩ := chk_spec h
  have hf := Option.isNone_iff_eq_none.1 hf
  split at h
  ·rename_i e esz by_ hl
   split at h
   ·rename_i zs hlz
    obtain ⟨c1, h⟩ := chk_spec h
    obtain ⟨c2, h⟩ := chk_spec h
    obtain ⟨lv, h, hlv⟩ := aget_sound h
    obtain ⟨cv, h, hcv⟩ := aget_sound h
    split at h
    ·rename_i k1 a1 k2 b1 _
     obtain ⟨hab, h0, hbytes, hK⟩ := h
     subst hab
     have hz := B.hZ.at_ hlz
     have hle := hlv F τ w cx.n a rfl hr.env
     have hce := hcv F τ w cx.n a rfl hr.env
     generalize hl1 : a.eval l = lval at hle
     generalize hc1 : a.eval c = cval at hce
     cases hle; cases hce
     obtain ⟨v, w', q1, q2⟩ := make_new hr hd hf (by rw [hP]; exact tabB_look B.hT hl) (by rw [hP]; exact hz) (Nat.eq_of_beq_eq_true c1) (blt_lt c2) (kl := k1) (kc := k2) (n := a1.toNat) hbytes
     unfold Oper.wp
     simp only [execOp, hop, hl1, hc1]
     rw [hP, Int.toNat_of_nonneg h0] at q1
     rw [exec_value q1, Oper.upon_value, hdst]
     exact hn _ _ _ hK q2
    ·exact h.elim
   ·exact h.elim
  ·exact h.elim
 case h_6 as ts d hop hdst =>
  obtain ⟨hd, h⟩ := chk_spec h
  have hd := blt_lt hd
  obtain ⟨hf, h⟩ := chk_spec h
  have hf := Option.isNone_iff_eq_none.1 hf
  split at h
  ·rename_i x y t t' has hts
   obtain ⟨c0, hA⟩ := chk_spec h
   have c0 := Nat.eq_of_beq_eq_true c0
   clear h
   split at hA
   ·rename_i e esz by_ hl
    split at hA
    ·rename_i zs hlz
     obtain ⟨c1, hB⟩ := chk_spec hA
     obtain ⟨c2, hC⟩ := chk_spec hB
     obtain ⟨xv, hD, hx⟩ := aget_sound hC
     obtain ⟨yv, hE, hy⟩ := aget_sound hD
     obtain ⟨r, m, row, hG, hone, hsrc⟩ := srcV_sound hE
     have hz := B.hZ.at_ hlz
     have has' : as = #[x, y] := by rw [← Array.toArray_toList (xs := as), has]
     have hts' : ts = #[t, t'] := by rw [← Array.toArray_toList (xs := ts), hts]
     subst c0
     subst has'
     subst hts'
     obtain ⟨v', w', s', q1, q2, q3⟩ := appV_sound (ty := o.type) hr hG hd hf (by rw [hP]; exact tabB_look B.hT hl) (by rw [hP]; exact hz) (Nat.eq_of_beq_eq_true c1) (blt_lt c2) (hsrc cx τ F w _ hr.wr (hy F τ w cx.n a rfl hr.env)) hone (hx F τ w cx.n a rfl hr.env)
     unfold Oper.wp
     rw [hP] at q1
     have hrun : (execOp a.eval o).run B.P w = .ok (.value v') w' := by
      simp only [execOp, hop, resolve, Sem.run_bind, Sem.run_pure, Result.andThen_ok, invoke, builtin]
      have e1 : Array.map a.eval #[x, y] = #[a.eval x, a.eval y] := by simp
      rw [e1, q1]
      rfl
     rw [hrun, Oper.upon_value, hdst]
     exact hn _ _ _ q2 q3
    ·exact hA.elim
   ·exact hA.elim
  ·exact h.elim
 case h_7 as ts d hop hdst =>
  obtain ⟨hd, h⟩ := chk_spec h
  have hd := blt_lt hd
  split at h
  ·rename_i x y t t' has hts
   obtain ⟨c0, hA⟩ := chk_spec h
   have c0 := Nat.eq_of_beq_eq_true c0
   clear h
   split at hA
   ·rename_i e esz by_ hl
    obtain ⟨xv, hD, hx⟩ := aget_sound hA
    obtain ⟨yv, hE, hy⟩ := aget_sound hD
    obtain ⟨r, m, row, hG, hone, hsrc⟩ := srcV_sound hE
    have has' : as = #[x, y] := by rw [← Array.toArray_toList (xs := as), has]
    have hts' : ts = #[t, t'] := by rw [← Array.toArray_toList (xs := ts), hts]
    subst c0
    subst has'
    subst hts'
    obtain ⟨q, w', s', q1, q2, q3⟩ := copyV_sound (ty := o.type) hr hG (by rw [hP]; exact tabB_look B.hT hl) (hsrc cx τ F w _ hr.wr (hy F τ w cx.n a rfl hr.env)) hone (hx F τ w cx.n a rfl hr.env)
    unfold Oper.wp
    rw [hP] at q1
    have hrun : (execOp a.eval o).run B.P w = .ok (.value (.int .i64 (q : Int))) w' := by
     simp only [execOp, hop, resolve, Sem.run_bind, Sem.run_pure, Result.andThen_ok, invoke, builtin]
     have e1 : Array.map a.eval #[x, y] = #[a.eval x, a.eval y] := by simp
     rw [e1, q1]
     rfl
    rw [hrun, Oper.upon_value, hdst]
    exact hn _ _ _ q2 ⟨τ, F, q3.put d _ _ (.val _ _) hd⟩
   ·exact hA.elim
  ·exact h.elim
 case h_8 t x y hop hdst =>
  obtain ⟨xv, h, hx⟩ := aget_sound h
  obtain ⟨yv, h, hy⟩ := aget_sound h
  obtain ⟨cs, h, hc⟩ := cellsV_sound h
  obtain ⟨hsz, hrep⟩ := hc F w τ _ (hy F τ w cx.n a rfl hr.env)
  split at h
  ·rename_i id esz i off _ _
   obtain ⟨o', h, hH⟩ := getO_sound h
   have fin : ∀ (r r' : Bool) (e n' : Nat) (row : Nat → List AV) (ti : TI), o' = HO.mk r e esz n' row → look B.T t = some ti → off + cs.length ≤ esz → ti.szB cs.length = true → cs.all AV.oneB = true → i < n' → (r' = false → AV.pureL cs = true) → (r = true → r' = true) → (r = false → r' = true → notFam s.heap id.id = true) →
     K { s with heap := setO s.heap id (HO.mk r' e esz n' fun j => if j = i then (row i).take off ++ cs ++ (row i).drop (off + cs.length) else row j) } → o.wp B.P a w next Q := by
    intro r r' e n' row ti ho' ht h1 h2 h3 hi hp hrr hnf hK
    obtain ⟨hnl, h2⟩ := szB_spec h2
    have hl := hH rfl
    rw [ho'] at hl
    have hxr := hx F τ w cx.n a rfl hr.env
    generalize hxe : a.eval x = xval at hxr
    cases hxr with
    | rp _ _ _ _ _ b m c hb =>
     obtain ⟨w', hw1, hw2⟩ := hr.writeRow (r' := r') hl hb hi h1 hsz hrep h3 hp hrr hnf
     obtain ⟨fi, hfi, his⟩ := aggSize_info hnl (tabB_look B.hT ht)
     unfold Oper.wp
     have hrun : (execOp a.eval o).run B.P w = .ok .skip w' := by
      rw [hP] at hw1
      simp only [execOp, hop, hxe, Instr.storeAt, Instr.sureAddr, storeVar, Sem.run_bind, Sem.run_pure, Result.andThen_ok, sizeOf_run hfi, his, h2, hsz, ne_eq, not_true_eq_false, if_false]
      simp [hw1]
     rw [hrun, Oper.upon_skip, hdst]
     exact hn _ _ _ hK ⟨τ, F, hw2⟩
   split at h
   ·rename_i e esz' n' row ti ht
    obtain ⟨h0, h⟩ := chk_spec h
    obtain ⟨h1, h⟩ := chk_spec h
    obtain ⟨h2, h⟩ := chk_spec h
    obtain ⟨h3, h⟩ := chk_spec h
    obtain ⟨h4, hi, hK⟩ := chk_spec h
    have h0 := Nat.eq_of_beq_eq_true h0
    subst h0
    refine fin false (!AV.pureL cs) e n' row ti rfl ht (Nat.le_of_ble_eq_true h1) h2 h3 hi (fun hq => by simpa using hq) (fun hq => by cases hq) (fun _ hq => ?_) (mkK_spec hK)
    rw [Bool.or_eq_true] at h4
    rcases h4 with h4 | h4
    ·rw [h4] at hq; cases hq
    ·exact h4
   ·rename_i e esz' n' row ti ht
    obtain ⟨h0, h⟩ := chk_spec h
    obtain ⟨h1, h⟩ := chk_spec h
    obtain ⟨h2, h⟩ := chk_spec h
    obtain ⟨h3, hi, hK⟩ := chk_spec h
    have h0 := Nat.eq_of_beq_eq_true h0
    subst h0
    exact fin true true e n' row ti rfl ht (Nat.le_of_ble_eq_true h1) h2 h3 hi (fun hq => by cases hq) (fun hq => hq) (fun hq => by cases hq) hK
   ·exact h.elim
  ·rename_i id off _ _
   obtain ⟨o', h, hH⟩ := getO_sound h
   split at h
   ·rename_i old ti ht
    obtain ⟨h1, h⟩ := chk_spec h
    obtain ⟨h2, h⟩ := chk_spec h
    obtain ⟨h3, h⟩ := chk_spec h
    have h1 := Nat.le_of_ble_eq_true h1
    obtain ⟨hnl, h2⟩ := szB_spec h2
    have hxr := hx F τ w cx.n a rfl hr.env
    generalize hxe : a.eval x = xval at hxr
    cases hxr with
    | obj _ _ _ b hb =>
     obtain ⟨w', hw1, hw2⟩ := hr.write (hH rfl) hb h1 hsz hrep h3
     obtain ⟨i, hi, his⟩ := aggSize_info hnl (tabB_look B.hT ht)
     unfold Oper.wp
     have hrun : (execOp a.eval o).run B.P w = .ok .skip w' := by
      rw [hP] at hw1
      simp only [execOp, hop, hxe, Instr.storeAt, Instr.sureAddr, storeVar, Sem.run_bind, Sem.run_pure, Result.andThen_ok, sizeOf_run hi, his, h2, hsz, ne_eq, not_true_eq_false, if_false]
      simp [hw1]
     rw [hrun, Oper.upon_skip, hdst]
     exact hn _ _ _ h ⟨τ, F, hw2⟩
   ·exact h.elim
  ·exact h.elim
 case h_9 d hdst _ _ _ _ _ _ _ => exact quiet d hdst h
 case h_10 => exact h.elim
theorem wanted_guard {F : Nat → Prop} {τ : Nm → Option Value} {w : World} {n : Nat} {ops : List Oper} {s : St} {a : Act} {o : Oper} {i : Nat} {b : Bool} {K : Bool → Prop} (ho : o.guard = some (i, b)) (h : guardB ops s i b K) (he : EnvR F τ w n s.env a.tmps) :
  ∃ g, K g ∧ Region.wanted o (yielded ops.toArray a.tmps) = g := by
 unfold guardB at h
 split at h
 ·rename_i d hd
  have hy : ∀ v, a.tmps.getD d undef = v → v ≠ undef → yielded ops.toArray a.tmps i = (match v with | .bool b => some b | _ => none) := by
   intro v hv hne
   have hlt : d < a.tmps.size := by
    rcases Nat.lt_or_ge d a.tmps.size with h | h
    ·exact h
    ·simp [Array.getElem?_eq_none h] at hv
     exact absurd hv.symm hne
   have h2 : a.tmps[d]? = some v := by
    have e : a.tmps[d]? = some a.tmps[d] := Array.getElem?_eq_getElem hlt
    rw [e]
    simp [hlt] at hv
    rw [hv]
   have hd' : (ops.toArray[i]?).bind (·.dst) = some d := by simpa using hd
   unfold yielded
   rw [hd', Option.bind_some, h2]
   cases v <;> rfl
  split at h
  ·rename_i x hl
   have hr := (he d _ hl).2
   generalize hv : a.tmps.getD d undef = v at hr
   cases hr
   refine ⟨_, h, ?_⟩
   unfold Region.wanted
   rw [ho]
   simp only [hy _ hv (by simp [undef])]
   cases x <;> cases b <;> rfl
  ·rename_i g x hl
   have hr := (he d _ hl).2
   generalize hv : a.tmps.getD d undef = v at hr
   refine ⟨_, h, ?_⟩
   unfold Region.wanted
   rw [ho]
   cases hr with
   | condT _ _ _ hr =>
    cases hr
    simp only [hy _ hv (by simp [undef])]
    cases x <;> cases b <;> rfl
   | condF =>
    have hy2 : yielded ops.toArray a.tmps i = none := by
     have hd' : (ops.toArray[i]?).bind (·.dst) = some d := by simpa using hd
     unfold yielded
     rw [hd', Option.bind_some]
     cases h2 : a.tmps[d]? with
     | none => rfl
     | some u =>
      have : a.tmps.getD d undef = u := by simp [h2]
      rw [hv] at this; subst this; rfl
    simp only [hy2]
    cases x <;> cases b <;> rfl
  ·exact h.elim
 ·exact h.elim
theorem aopG_sound (B : Tabs) {cx : Cx} (hP : cx.P = B.P) {s : St} {o : Oper} {K : St → Prop} {g : Bool} (h : aopG B cx.n g s o.op o.dst K) {a : Act} {w : World} (hr : Rel cx s a w)
  {next : Act → World → Prop} {Q : Exit → Act → World → Prop} (hn : ∀ s' a' w', K s' → Rel cx s' a' w' → next a' w') :
  (g = true → o.wp cx.P a w next Q) ∧ (g = false → next (a.put o.dst undef) w) := by
 obtain ⟨τ, F, hr⟩ := hr
 rw [hP]
 have quiet : ∀ d, o.dst = some d → chk (Nat.blt d cx.n) (qop B g s o.op fun y => K (s.put d (.cond g y))) → (g = true → o.wp B.P a w next Q) ∧ (g = false → next (a.put o.dst undef) w) := by
  intro d hdst h
  obtain ⟨hd, h⟩ := chk_spec h
  have hd := blt_lt hd
  obtain ⟨y, hy, hs⟩ := qop_sound B h
  refine ⟨fun hg => ?_, fun hg => ?_⟩
  ·obtain ⟨v, h1, h2⟩ := hs cx τ F w a hg hr
   unfold Oper.wp
   rw [h2 o rfl w (Same.refl _ _ _), Oper.upon_value, hdst]
   subst hg
   exact hn _ _ _ hy ⟨τ, F, hr.put d _ v (.condT _ _ _ h1) hd⟩
  ·subst hg
   rw [hdst]
   exact hn _ _ _ hy ⟨τ, F, hr.put d _ undef (.condF _ _) hd⟩
 unfold aopG at h
 split at h
 case h_1 f as ts d hop hdst =>
  obtain ⟨hd, h⟩ := chk_spec h
  have hd := blt_lt hd
  obtain ⟨ys, h, hl, hs⟩ := agets_sound h
  obtain ⟨hp, y, hc, hK⟩ := chk_spec h
  obtain ⟨hpy, hK⟩ := chk_spec hK
  simp only [Bool.and_eq_true, Bool.or_eq_true, Bool.not_eq_true'] at hpy
  obtain ⟨hpy, hex⟩ := hpy
  refine ⟨fun hg => ?_, fun hg => ?_⟩
  ·obtain ⟨hfn, hcall⟩ := hc hg
   obtain ⟨F1, f1, f2, f3, f4, f5⟩ := lent_rep hr.wr ys hp
   obtain ⟨l1, hargs⟩ := all_rep (caps := []) (cv := #[]) hl rfl (hs F τ w cx.n a hg hr.env) (fun j c hc => by simp at hc)
   rw [List.append_nil] at l1 hargs
   unfold Oper.wp
   rw [call_run hfn (x := .func f) (caps := #[]) rfl hop, Oper.upon_enter]
   have := hcall F1 w (as.map a.eval ++ #[]).toList f2 (by rw [f4]; exact l1) (f5 _ hargs)
   rw [Array.toArray_toList] at this
   refine this.mono fun e w' ⟨v, F', he, hb, q1, q2, q3, q4⟩ => ?_
   subst he
   show next (a.put o.dst v) w'
   rw [hdst]
   subst hg
   rcases hex with hex | hex
   ·have hback := f3 hex
    exact hn _ _ _ hK ⟨τ, F', (hr.called hb (fun k hk => q1 k (f1 k hk)) (fun k hk => (q2 k hk).imp (hback k) id) q3).put d _ v (.condT _ _ _ (q4.pure hpy)) hd⟩
   ·obtain ⟨u, hu⟩ := Option.isSome_iff_exists.1 hex
    have hue := exact_spec y u hu
    have huv := (hue F' w' (fun _ => none)).2 v q4
    subst huv
    exact hn _ _ _ hK ⟨τ, F, (hr.later hb).put d _ v (.condT _ _ _ (hue F w' τ).1) hd⟩
  ·subst hg
   rw [hdst]
   exact hn _ _ _ hK ⟨τ, F, hr.put d _ undef (.condF _ _) hd⟩
 case h_2 d hdst _ => exact quiet d hdst h
 case h_3 => exact h.elim
theorem aops_sound (B : Tabs) {cx : Cx} (hP : cx.P = B.P) {ops : List Oper} {Q : Exit → Act → World → Prop} : ∀ (l : List Oper) {s : St} {K : St → Prop}, aops B cx.n ops l s K → ∀ {a : Act} {w : World}, Rel cx s a w →
  (∀ s' a' w', K s' → Rel cx s' a' w' → Q .normal a' w') → wpList cx.P ops.toArray Q l a w
 | [], s, K, h, a, w, hr, hQ => hQ _ _ _ h hr
 | o :: r, s, K, h, a, w, hr, hQ => by
  simp only [wpList]
  unfold aops at h
  split at h
  ·rename_i hg
   have hw : Region.wanted o (yielded ops.toArray a.tmps) = true := by unfold Region.wanted; rw [hg]
   rw [if_pos hw]
   exact .inl (aop_sound B hP h hr fun s' a' w' hK hr' => aops_sound B hP r hK hr' hQ)
  ·rename_i i b hg
   have hr0 := hr
   obtain ⟨τ, F, hr1⟩ := hr
   obtain ⟨g, hG, hw⟩ := wanted_guard hg h hr1.env
   obtain ⟨h1, h2⟩ := aopG_sound B hP (Q := Q) hG hr0 (next := wpList cx.P ops.toArray Q r) fun s' a' w' hK hr' => aops_sound B hP r hK hr' hQ
   rw [hw]
   cases g with
   | true => rw [if_pos rfl]; exact .inl (h1 rfl)
   | false => rw [if_neg (by simp)]; exact h2 rfl
end Go.Abs
namespace Go.Abs
open Go Go.RowKit
set_option linter.unusedVariables false
def aopQ (B : Tabs) (n : Nat) (g : Bool) (wrap : AV → AV) (s : St) (op : Op) (d : Option Nat) (K : St → Prop) : Prop :=
 match op, d with
 | .call { callee := .value (.func f), args := as, argTypes := _ }, some d => chk (Nat.blt d n) (agets g s as.toList fun ys => chk (AV.pureL (borrowL s ys).1) (CallK B.P g f (borrowL s ys).1 fun y => chk (AV.exact y).isSome (K (s.put d (wrap y)))))
 | op, some d => chk (Nat.blt d n) (qop B g s op fun y => K (s.put d (wrap y)))
 | _, none => False
def aopsQ (B : Tabs) (n : Nat) (ops : List Oper) : List Oper → St → (St → Prop) → Prop
 | [], s, K => K s
 | o :: r, s, K => match o.guard with
  | none => aopQ B n true (fun y => y) s o.op o.dst fun s' => aopsQ B n ops r s' K
  | some (i, b) => guardB ops s i b fun g => aopQ B n g (fun y => .cond g y) s o.op o.dst fun s' => aopsQ B n ops r s' K
theorem aopQ_sound (B : Tabs) {cx : Cx} (hP : cx.P = B.P) {s : St} {o : Oper} {K : St → Prop} {g : Bool} {wrap : AV → AV} (h : aopQ B cx.n g wrap s o.op o.dst K) (hwrap : g = true → ∀ F w τ y v, Rep F w τ y v → Rep F w τ (wrap y) v)
  (hfalse : g = false → ∀ F w τ y, Rep F w τ (wrap y) undef) {τ F a w} (hr : RelA cx τ F s a w) {next : Act → Prop} (hn : ∀ s' a', K s' → RelA cx τ F s' a' w → next a') :
  (g = true → o.quiet B.P a (fun w' => Below w.heap.size w w') next) ∧ (g = false → next (a.put o.dst undef)) := by
 have quiet : ∀ d, o.dst = some d → chk (Nat.blt d cx.n) (qop B g s o.op fun y => K (s.put d (wrap y))) → (g = true → o.quiet B.P a (fun w' => Below w.heap.size w w') next) ∧ (g = false → next (a.put o.dst undef)) := by
  intro d hdst h
  obtain ⟨hd, h⟩ := chk_spec h
  have hd := blt_lt hd
  obtain ⟨y, hy, hs⟩ := qop_sound B h
  refine ⟨fun hg => ?_, fun hg => ?_⟩
  ·obtain ⟨v, h1, h2⟩ := hs cx τ F w a hg hr
   refine ⟨v, fun w' hb => ?_, ?_⟩
   ·unfold Oper.quietAt
    rw [h2 o rfl w' (hr.wr.same hb)]
    exact ⟨rfl, rfl⟩
   ·rw [hdst]; exact hn _ _ hy (hr.put d _ v (hwrap hg _ _ _ _ _ h1) hd)
  ·rw [hdst]; exact hn _ _ hy (hr.put d _ undef (hfalse hg _ _ _ _) hd)
 unfold aopQ at h
 split at h
 case h_1 f as ts d hop hdst =>
  obtain ⟨hd, h⟩ := chk_spec h
  have hd := blt_lt hd
  obtain ⟨ys, h, hl, hs⟩ := agets_sound h
  obtain ⟨hp, y, hc, hK⟩ := chk_spec h
  obtain ⟨hpy, hK⟩ := chk_spec hK
  refine ⟨fun hg => ?_, fun hg => ?_⟩
  ·obtain ⟨hfn, hcall⟩ := hc hg
   obtain ⟨v, hv⟩ := Option.isSome_iff_exists.1 hpy
   have hex := exact_spec y v hv
   refine ⟨v, fun w' hb => ?_, ?_⟩
   ·unfold Oper.quietAt
    rw [call_run hfn (x := .func f) (caps := #[]) rfl hop]
    refine ⟨rfl, ?_⟩
    have hr' := hr.later hb
    obtain ⟨F1, f1, f2, f3, f4, f5⟩ := lent_rep hr'.wr ys hp
    obtain ⟨l1, hargs⟩ := all_rep (caps := []) (cv := #[]) hl rfl (hs F τ w' cx.n a hg hr'.env) (fun j c hc => by simp at hc)
    rw [List.append_nil] at l1 hargs
    have := hcall F1 w' (as.map a.eval ++ #[]).toList f2 (by rw [f4]; exact l1) (f5 _ hargs)
    rw [Array.toArray_toList] at this
    refine this.mono fun e w'' ⟨u, F', he, hb', q1, q2, q3, q4⟩ => ?_
    have := (hex F' w'' (fun _ => none)).2 u q4
    subst this
    exact ⟨he, hb.trans (hb'.mono hb.size)⟩
   ·rw [hdst]; exact hn _ _ hK (hr.put d _ v (hwrap hg _ _ _ _ _ (hex F w τ).1) hd)
  ·rw [hdst]; exact hn _ _ hK (hr.put d _ undef (hfalse hg _ _ _ _) hd)
 case h_2 d hdst _ => exact quiet d hdst h
 case h_3 => exact h.elim
theorem aopsQ_sound (B : Tabs) {cx : Cx} (hP : cx.P = B.P) {ops : List Oper} {τ F w} {Q : Act → Prop} : ∀ (l : List Oper) {s : St} {K : St → Prop}, aopsQ B cx.n ops l s K → ∀ {a : Act}, RelA cx τ F s a w →
  (∀ s' a', K s' → RelA cx τ F s' a' w → Q a') → wpQuiet B.P ops.toArray (fun w' => Below w.heap.size w w') Q l a
 | [], s, K, h, a, hr, hQ => hQ _ _ h hr
 | o :: r, s, K, h, a, hr, hQ => by
  simp only [wpQuiet]
  unfold aopsQ at h
  split at h
  ·rename_i hg
   have hw : Region.wanted o (yielded ops.toArray a.tmps) = true := by unfold Region.wanted; rw [hg]
   rw [if_pos hw]
   exact (aopQ_sound B hP h (fun _ _ _ _ _ _ h => h) (fun h => by cases h) hr fun s' a' hK hr' => aopsQ_sound B hP r hK hr' hQ).1 rfl
  ·rename_i i b hg
   obtain ⟨g, hG, hw⟩ := wanted_guard hg h hr.env
   obtain ⟨h1, h2⟩ := aopQ_sound B hP hG (fun hg _ _ _ _ _ h => by subst hg; exact .condT _ _ _ h) (fun hg _ _ _ _ => by subst hg; exact .condF _ _) hr (next := wpQuiet B.P ops.toArray (fun w' => Below w.heap.size w w') Q r) fun s' a' hK hr' => aopsQ_sound B hP r hK hr' hQ
   rw [hw]
   cases g with
   | true => rw [if_pos rfl]; exact h1 rfl
   | false => rw [if_neg (by simp)]; exact h2 rfl
/-! ### The code -/
def AWp (B : Tabs) (n : Nat) (c : Code) (s : St) (Q : Exit → St → Prop) : Prop :=
 ∀ cx : Cx, cx.P = B.P → cx.n = n → ∀ a w, Rel cx s a w → c.wp B.P (fun e a' w' => ∃ s', Q e s' ∧ Rel cx s' a' w') a w
section
variable {B : Tabs} {n : Nat} {s : St} {Q : Exit → St → Prop}
theorem AWp.mono {c : Code} {Q' : Exit → St → Prop} (h : AWp B n c s Q) (hq : ∀ e s, Q e s → Q' e s) : AWp B n c s Q' :=
 fun cx hP hn a w hr => wp_mono (h cx hP hn a w hr) fun e a' w' ⟨s', h1, h2⟩ => ⟨s', hq _ _ h1, h2⟩
def Then (K : St → Prop) (Q : Exit → St → Prop) : Exit → St → Prop
 | .normal, s => K s
 | e, s => Q e s
theorem AWp.seq {x y : Code} (h : AWp B n x s (Then (fun s' => AWp B n y s' Q) Q)) : AWp B n (.seq x y) s Q := by
 intro cx hP hn a w hr
 refine wp_seq (wp_mono (h cx hP hn a w hr) fun e a' w' ⟨s', h1, h2⟩ => ?_)
 cases e with
 | normal => exact h1 cx hP hn a' w' h2
 | _ => exact ⟨s', h1, h2⟩
theorem AWp.skip (h : Q .normal s) : AWp B n .skip s Q := fun cx hP hn a w hr => wp_skip ⟨s, h, hr⟩
theorem AWp.exit {id : Nat} (h : Q (.exit id) s) : AWp B n (.exit id) s Q := fun cx hP hn a w hr => wp_exit ⟨s, h, hr⟩
theorem AWp.ret (h : Q .ret s) : AWp B n .ret s Q := fun cx hP hn a w hr => wp_ret ⟨s, h, hr⟩
theorem AWp.cond {c : Operand} {x y : Code} (h : aget true s c fun cv => match cv with
  | .val (.bool b) => (b = true → AWp B n x s Q) ∧ (b = false → AWp B n y s Q)
  | _ => False) : AWp B n (.cond c x y) s Q := by
 intro cx hP hn a w hr
 obtain ⟨cv, h, hc⟩ := aget_sound h
 obtain ⟨τ, F, hr1⟩ := hr
 have h1 := hc F τ w cx.n a rfl hr1.env
 split at h
 ·rename_i b
  generalize hce : a.eval c = v at h1
  cases h1
  cases b with
  | true => exact wp_cond_true hce (h.1 rfl cx hP hn a w ⟨τ, F, hr1⟩)
  | false => exact wp_cond_false hce (h.2 rfl cx hP hn a w ⟨τ, F, hr1⟩)
 ·exact h.elim
def InBlock (id : Nat) (Q : Exit → St → Prop) : Exit → St → Prop
 | .exit id', s => match Nat.beq id' id with
  | true => Q .normal s
  | false => Q (.exit id') s
 | e, s => Q e s
theorem AWp.block {id : Nat} {c : Code} (h : AWp B n c s (InBlock id Q)) : AWp B n (.block id c) s Q := by
 intro cx hP hn a w hr
 refine wp_block (wp_mono (h cx hP hn a w hr) fun e a' w' ⟨s', h1, h2⟩ => ?_)
 cases e with
 | exit id' =>
  simp only [Exit.inBlock, InBlock] at h1 ⊢
  split
  ·rename_i e; subst e; simp only [Nat.beq_refl] at h1; exact ⟨s', h1, h2⟩
  ·rename_i e
   have : Nat.beq id' id = false := by
    cases e' : Nat.beq id' id with
    | false => rfl
    | true => exact absurd (Nat.eq_of_beq_eq_true e') e
   rw [this] at h1
   exact ⟨s', h1, h2⟩
 | _ => exact ⟨s', h1, h2⟩
theorem AWp.region {id : Nat} {l : List Oper} (h : aops B n l l s (fun s' => Unit → Q .normal s')) : AWp B n (.region id l.toArray false) s Q := by
 intro cx hP hn a w hr
 subst hn
 rw [← hP]
 exact wp_region_lit (aops_sound B hP l h hr fun s' a' w' hK hr' => ⟨s', hK (), hr'⟩)
theorem AWp.draw {id : Nat} {l : List Oper} (hm : B.P.follows .mixedOrders = true) (hB : Region.lexB .any l.toArray = true) (h : aopsQ B n l l s (fun s' => Unit → Q .normal s')) : AWp B n (.region id l.toArray true) s Q := by
 intro cx hP hn a w hr
 subst hn
 obtain ⟨τ, F, hr⟩ := hr
 have hb0 : Below w.heap.size w { w with drawn := w.drawn + 1 } := ⟨rfl, rfl, rfl, Nat.le_refl _, fun _ _ => rfl⟩
 have hr1 := hr.later hb0
 exact wp_region_quiet (C := fun w' => Below w.heap.size w w') hm hB hb0
  (aopsQ_sound B hP l h hr fun s' a' hK hr' w' hw' => ⟨s', hK (), τ, F, hr'.later hw'⟩)
def subEnv (p : Nm → Prop) (e : List (Nat × AV)) : List (Nat × AV) → Prop
 | [] => True
 | (t, x) :: r => look e t = some x ∧ AV.refsP p x ∧ subEnv p e r
def sub1 (y : HO) : HO → Prop
 | .cells cs => y = .cells cs
 | .row e esz n f => ∃ n' f', y = .row e esz n' f' ∧ n' = n ∧ ∀ i, i < n → f i = f' i
 | .rows e esz n f => ∃ n' f', y = .rows e esz n' f' ∧ n' = n ∧ ∀ i, i < n → f i = f' i
 | .fam _ _ => False
def subHO (y : Option HO) : HO → Prop
 | .cells cs => y = some (.cells cs)
 | .row e esz n f => ∃ n' f', y = some (.row e esz n' f') ∧ n' = n ∧ ∀ i, i < n → f i = f' i
 | .rows e esz n f => ∃ n' f', y = some (.rows e esz n' f') ∧ n' = n ∧ ∀ i, i < n → f i = f' i
 | .fam D o => ∃ D0 o0, y = some (.fam D0 o0) ∧ ∀ ix, D ix → D0 ix ∧ sub1 (o0 ix) (o ix)
def subHeap (p : Nm → Prop) (e : List (Nat × HO)) : List (Nat × HO) → Prop
 | [] => True
 | (t, x) :: r => subHO (look e t) x ∧ HO.refsP p x ∧ subHeap p e r
def Sub (s' s : St) : Prop := subEnv (domP s'.heap) s.env s'.env ∧ subHeap (domP s'.heap) s.heap s'.heap
theorem subEnv_at {p : Nm → Prop} {e : List (Nat × AV)} : ∀ {l : List (Nat × AV)}, subEnv p e l → ∀ t x, look l t = some x → look e t = some x ∧ AV.refsP p x
 | [], _, t, x, h => by cases h
 | (k, y) :: r, h, t, x, hl => by
  rw [look_cons] at hl
  split at hl
  ·rename_i hk; subst hk; injection hl with hl; subst hl; exact ⟨h.1, h.2.1⟩
  ·exact subEnv_at h.2.2 t x hl
theorem subHeap_at {p : Nm → Prop} {e : List (Nat × HO)} : ∀ {l : List (Nat × HO)}, subHeap p e l → ∀ t x, look l t = some x → subHO (look e t) x ∧ HO.refsP p x
 | [], _, t, x, h => by cases h
 | (k, y) :: r, h, t, x, hl => by
  rw [look_cons] at hl
  split at hl
  ·rename_i hk; subst hk; injection hl with hl; subst hl; exact ⟨h.1, h.2.1⟩
  ·exact subHeap_at h.2.2 t x hl
theorem subHas {s s' : St} (hs : Sub s' s) {nm : Nm} {o : HO} (hl : Has s'.heap nm o) : ∃ o0, Has s.heap nm o0 ∧ sub1 o0 o ∧ o.refsP (domP s'.heap) := by
 obtain ⟨x, h1, h2, h3⟩ := hl
 obtain ⟨q1, q2⟩ := subHeap_at hs.2 nm.id x h1
 have hr := refsP_at q2 h2 h3
 have flat : ∀ {y y0 : HO}, x = y → y.flat = true → look s.heap nm.id = some y0 → y0.flat = true → sub1 y0 y → ∃ o0, Has s.heap nm o0 ∧ sub1 o0 o ∧ o.refsP (domP s'.heap) := by
  intro y y0 hx hf hl0 hf0 hsub
  subst hx
  obtain ⟨e1, e2⟩ := (HO.at_flat hf).1 h2
  subst e2
  exact ⟨y0, ⟨y0, hl0, (HO.at_flat hf0).2 ⟨e1, rfl⟩, HO.in_flat hf0 _⟩, hsub, hr⟩
 cases x with
 | cells cs => exact flat rfl rfl q1 rfl rfl
 | row e esz n f => obtain ⟨n', f', g1, g2, g3⟩ := q1; exact flat rfl rfl g1 rfl ⟨n', f', rfl, g2, g3⟩
 | rows e esz n f => obtain ⟨n', f', g1, g2, g3⟩ := q1; exact flat rfl rfl g1 rfl ⟨n', f', rfl, g2, g3⟩
 | fam D f =>
  obtain ⟨D0, o0, g1, g2⟩ := q1
  simp only [HO.at_, Option.some.injEq] at h2
  subst h2
  obtain ⟨g3, g4⟩ := g2 nm.ix h3
  exact ⟨o0 nm.ix, ⟨_, g1, rfl, g3⟩, g4, hr⟩
theorem RelA.subW {cx τ F s s' w} (h : RelW cx τ F s w) (hs : Sub s' s) : RelW cx (fun nm => open Classical in if domP s'.heap nm then τ nm else none) F s' w := by
 let τ' : Nm → Option Value := fun nm => open Classical in if domP s'.heap nm then τ nm else none
 have hτ : ∀ id u, τ' id = some u → domP s'.heap id ∧ τ id = some u := fun id u hu => by
  have hu' : (open Classical in if domP s'.heap id then τ id else none) = some u := hu
  split at hu'
  ·rename_i e; exact ⟨e, hu'⟩
  ·cases hu'
 have hτ2 : ∀ id, domP s'.heap id → τ' id = τ id := fun id h => if_pos h
 refine ⟨h.keeps, h.fz, fun k id v hk hv => h.fne k id v hk (hτ id v hv).2, h.fsub, h.fsup, fun id v b hv => h.tlt id v b (hτ id v hv).2, fun id id' v v' b hv hv' => h.inj id id' v v' b (hτ id v hv).2 (hτ id' v' hv').2, fun id o hl => ?_, fun id v hv => has_of_dom (hτ id v hv).1, fun id v ho hv => h.old id v ho (hτ id v hv).2, h.cxn⟩
 obtain ⟨o0, g1, g2, g3⟩ := subHas hs hl
 obtain ⟨v, h1, h2⟩ := h.obj id _ g1
 refine ⟨v, (hτ2 id (domP_of hl)).trans h1, ?_⟩
 cases o with
 | cells cs =>
  have g2 : o0 = .cells cs := g2
  subst g2
  obtain ⟨b, c, ty, rfl, h3, h4, h5⟩ := h2
  exact ⟨b, c, ty, rfl, h3, h4, fun j x hx => (h5 j x hx).refs hτ2 (refsPL_at g3 j x hx)⟩
 | row e esz n row =>
  obtain ⟨n', f', rfl, rfl, hff⟩ := g2
  obtain ⟨xs, q1, q2, q3⟩ := h2
  exact ⟨xs, q1, fun i hi => by rw [hff i hi]; exact q2 i hi, fun i j x hi hx => q3 i j x hi (by rw [← hff i hi]; exact hx)⟩
 | rows e esz n row =>
  obtain ⟨n', f', rfl, rfl, hff⟩ := g2
  obtain ⟨xs, q1, q2, q3⟩ := h2
  exact ⟨xs, q1, fun i hi => by rw [hff i hi]; exact q2 i hi, fun i j x hi hx => (q3 i j x hi (by rw [← hff i hi]; exact hx)).refs hτ2 (refsPL_at (g3 i hi) j x hx)⟩
 | fam D f => exact g2.elim
theorem RelA.sub {cx τ F s s' a w} (h : RelA cx τ F s a w) (hs : Sub s' s) : Rel cx s' a w := by
 refine ⟨_, F, RelA.subW h.wr hs, h.size, h.defers, fun t x ht => ?_⟩
 obtain ⟨h1, h2⟩ := subEnv_at hs.1 t x ht
 exact ⟨(h.env t x h1).1, (h.env t x h1).2.refs (fun id h => if_pos h) h2⟩
theorem AWp.weaken {c : Code} {s' : St} (hs : Sub s' s) (h : AWp B n c s' Q) : AWp B n c s Q :=
 fun cx hP hn a w ⟨_, _, hr⟩ => h cx hP hn a w (hr.sub hs)
theorem least {p : Nat → Prop} (h : ∃ k, p k) : ∃ k, p k ∧ ∀ m, p m → k ≤ m := by
 obtain ⟨k, hk⟩ := h
 induction k using Nat.strongRecOn with
 | _ k ih =>
  by_cases e : ∃ m, m < k ∧ p m
  ·obtain ⟨m, h1, h2⟩ := e; exact ih m h1 h2
  ·exact ⟨k, hk, fun m hm => Nat.le_of_not_lt fun hlt => e ⟨m, hlt, hm⟩⟩
open Classical in
noncomputable def leastMu {ι : Type} (cx : Cx) (I : ι → St) (μ : ι → Nat) (a : Act) (w : World) : Nat :=
 if h : ∃ k, ∃ i, Rel cx (I i) a w ∧ μ i = k then (least h).choose else 0
theorem leastMu_spec {ι : Type} {cx : Cx} {I : ι → St} {μ : ι → Nat} {a : Act} {w : World} (h : ∃ i, Rel cx (I i) a w) : (∃ i, Rel cx (I i) a w ∧ μ i = leastMu cx I μ a w) ∧ ∀ i, Rel cx (I i) a w → leastMu cx I μ a w ≤ μ i := by
 have h' : ∃ k, ∃ i, Rel cx (I i) a w ∧ μ i = k := let ⟨i, hi⟩ := h; ⟨_, i, hi, rfl⟩
 unfold leastMu
 rw [dif_pos h']
 have := (least h').choose_spec
 exact ⟨this.1, fun i hi => this.2 _ ⟨i, hi, rfl⟩⟩
theorem AWp.loop {ι : Type} {c : Code} (I : ι → St) (p : ι → Prop) (μ : ι → Nat) (i : ι) (hp : p i) (hs : Sub (I i) s)
  (round : ∀ i, p i → AWp B n c (I i) (Then (fun s' => ∃ i', p i' ∧ Sub (I i') s' ∧ μ i' < μ i) Q)) : AWp B n (.loop c) s Q := by
 intro cx hP hn a w ⟨_, _, hr⟩
 let I' : { i // p i } → St := fun i => I i.1
 let μ' : { i // p i } → Nat := fun i => μ i.1
 refine wp_loop (fun a w => ∃ i, Rel cx (I' i) a w) (fun a w => leastMu cx I' μ' a w) ⟨⟨i, hp⟩, hr.sub hs⟩ fun a w hI => ?_
 obtain ⟨⟨i, hi, hmu⟩, _⟩ := leastMu_spec (μ := μ') hI
 refine wp_mono (round i.1 i.2 cx hP hn a w hi) fun e a' w' ⟨s', h1, h2⟩ => ?_
 cases e with
 | normal =>
  obtain ⟨i', hp', hs', hlt⟩ := h1
  obtain ⟨_, _, h2⟩ := h2
  have h3 : Rel cx (I' ⟨i', hp'⟩) a' w' := h2.sub hs'
  refine ⟨⟨⟨i', hp'⟩, h3⟩, ?_⟩
  have h4 := (leastMu_spec (μ := μ') ⟨⟨i', hp'⟩, h3⟩).2 ⟨i', hp'⟩ h3
  have h5 : μ' i = μ i.1 := rfl
  have h6 : μ' ⟨i', hp'⟩ = μ i' := rfl
  omega
 | _ => exact ⟨s', h1, h2⟩
end
theorem round_end {ι : Type} {I : ι → St} {p : ι → Prop} {μ : ι → Nat} {i : ι} {s : St} {Q : Exit → St → Prop} (i' : ι) (hp : p i') (hs : Sub (I i') s) (hμ : μ i' < μ i) :
  Then (fun s' => ∃ i', p i' ∧ Sub (I i') s' ∧ μ i' < μ i) Q .normal s := ⟨i', hp, hs, hμ⟩
theorem CallX.pure {P : Program} {n : Nat} {s : St} {f : FuncId} {ys : List AV} {d : Nat} {K : St → Prop} {avs : List AV} {y : AV} (h : ACallIs P f avs y) (e : (borrowL s ys).1 = avs) (h1 : AV.pureL avs = true) (h2 : (AV.pureB y && (!(borrowL s ys).2 || (AV.exact y).isSome)) = true) (hk : K (s.put d y)) : CallX P n s f ys d K :=
 .inl ⟨by rw [e]; exact h1, y, by rw [e]; exact h, h2, hk⟩
theorem CallX.lend {P : Program} {n : Nat} {s : St} {f : FuncId} {ys : List AV} {d : Nat} {K : St → Prop} {sp : MSpec} (h : ACallM P f sp) (σ : List (Nat × Nat)) (h1 : ys = AV.sigL σ sp.args) (h2 : AllAt s.heap (sigH σ sp.pre)) (h3 : sigOK s σ sp = true) (hk : K (s.after σ sp d)) : CallX P n s f ys d K :=
 .inr (.inl ⟨sp, σ, h, h1, h2, h3, hk⟩)
theorem CallX.some {P : Program} {n : Nat} {s : St} {f : FuncId} {ys : List AV} {d : Nat} {K : St → Prop} {avs : List AV} {R : AV → Prop} (h : ACallP P f avs R) (e : (borrowL s ys).1 = avs) (h1 : AV.pureL avs = true) (h2 : (borrowL s ys).2 = false) (hk : ∀ y, R y → AV.pureB y = true ∧ K (s.put d y)) : CallX P n s f ys d K :=
 .inr (.inr (.inl ⟨by rw [e]; exact h1, h2, R, by rw [e]; exact h, hk⟩))
theorem CallK.intro {P : Program} {g : Bool} {f : FuncId} {avs : List AV} {K : AV → Prop} {y : AV} (h : g = true → ACallIs P f avs y) (hk : K y) : CallK P g f avs K := ⟨y, h, hk⟩
theorem AWp.out {B : Tabs} {n : Nat} {c : Code} {s : St} {Q : Exit → St → Prop} (h : AWp B n c s Q) : ∀ cx : Cx, cx.P = B.P → cx.n = n → ∀ a w, Rel cx s a w → c.wp B.P (fun e a' w' => ∃ s', Q e s' ∧ Rel cx s' a' w') a w := h
end Go.Abs
namespace Go.Abs
open Go Go.RowKit
set_option linter.unusedVariables false
def viewSl (o : HO) (ix : List Nat) (m : Nat) : AV :=
 match o with
 | .row _ esz _ f => .ro esz m f
 | .fam _ g => (match g ix with
  | .row _ esz _ f => .ro esz m f
  | _ => .any)
 | _ => .any
def viewSo (o : HO) (ix : List Nat) (esz off m : Nat) : AV :=
 match o with
 | .row _ z _ f => bif Nat.beq esz z then .ro esz m (fun j => f (off + j)) else .any
 | .fam _ g => (match g ix with
  | .row _ z _ f => bif Nat.beq esz z then .ro esz m (fun j => f (off + j)) else .any
  | _ => .any)
 | _ => .any
def viewObj (o : HO) (ix : List Nat) (off : Nat) : AV :=
 match o with
 | .cells cs => .ptr (cs.drop off)
 | .fam _ g => (match g ix with
  | .cells cs => .ptr (cs.drop off)
  | _ => .any)
 | _ => .any
mutual
def AV.frz (id : Nat) (o : HO) : AV → AV
 | .val v => .val v
 | .any => .any
 | .ro sz n row => .ro sz n row
 | .ptr cs => .ptr cs
 | .cond g x => .cond g (AV.frz id o x)
 | .agg cs => .agg (AV.frzL id o cs)
 | .tup cs => .tup (AV.frzL id o cs)
 | .fn f cs => .fn f (AV.frzL id o cs)
 | .obj nm off => bif Nat.beq nm.id id then viewObj o nm.ix off else .obj nm off
 | .sl nm n => bif Nat.beq nm.id id then viewSl o nm.ix n else .sl nm n
 | .so nm esz off n => bif Nat.beq nm.id id then viewSo o nm.ix esz off n else .so nm esz off n
 | .rp nm esz i off => bif Nat.beq nm.id id then .any else .rp nm esz i off
def AV.frzL (id : Nat) (o : HO) : List AV → List AV
 | [] => []
 | x :: r => AV.frz id o x :: AV.frzL id o r
end
def frzH (id : Nat) (o : HO) : HO → HO
 | .cells cs => .cells (AV.frzL id o cs)
 | .row e esz n f => .row e esz n f
 | .rows e esz n f => .rows e esz n fun i => AV.frzL id o (f i)
 | .fam D g => .fam D fun ix => frzH id o (g ix)
def St.frz (s : St) (id : Nat) (o : HO) : St :=
 { env := s.env.map fun x => (x.1, x.2.frz id o), heap := (s.heap.filter fun x => !Nat.beq x.1 id).map fun x => (x.1, frzH id o x.2) }
def HO.pureP : HO → Prop
 | .cells cs => AV.pureL cs = true
 | .row _ _ _ _ => True
 | .rows _ _ _ _ => False
 | .fam D g => ∀ ix, D ix → (g ix).pureP
def domSame (y : Option HO) (o : HO) : Prop :=
 match y, o with
 | some (.fam D0 _), .fam D _ => ∀ ix, D0 ix → D ix
 | some (.fam _ _), _ => False
 | _, .fam _ _ => False
 | _, _ => True
theorem HOk.sub1 {F : Nat → Prop} {w : World} {τ : Nm → Option Value} {y0 y : HO} {u : Value} (h : HOk F w τ y0 u) (hs : Abs.sub1 y0 y) : HOk F w τ y u := by
 cases y with
 | cells cs => have : y0 = .cells cs := hs; subst this; exact h
 | row e esz n f =>
  obtain ⟨n', f', rfl, rfl, hff⟩ := hs
  obtain ⟨xs, q1, q2, q3⟩ := h
  exact ⟨xs, q1, fun i hi => by rw [hff i hi]; exact q2 i hi, fun i j x hi hx => q3 i j x hi (by rw [← hff i hi]; exact hx)⟩
 | rows e esz n f =>
  obtain ⟨n', f', rfl, rfl, hff⟩ := hs
  obtain ⟨xs, q1, q2, q3⟩ := h
  exact ⟨xs, q1, fun i hi => by rw [hff i hi]; exact q2 i hi, fun i j x hi hx => q3 i j x hi (by rw [← hff i hi]; exact hx)⟩
 | fam D f => exact hs.elim
theorem frz_at {cx τ F s w} (h : RelW cx τ F s w) {id : Nat} {o : HO} (hs : subHO (look s.heap id) o) (hd : domSame (look s.heap id) o) (hp : o.pureP) {ix : List Nat} {u : Value} (hu : τ ⟨id, ix⟩ = some u) :
  ∃ y, o.at_ ix = some y ∧ HOk F w τ y u ∧ y.pureP := by
 obtain ⟨y0, hh⟩ := h.dom _ u hu
 obtain ⟨v, h1, h2⟩ := h.obj _ _ hh
 rw [hu] at h1; injection h1 with h1; subst h1
 obtain ⟨x, g1, g2, g3⟩ := hh
 simp only at g1 g2 g3
 rw [g1] at hs hd
 have flat : ∀ {y : HO}, o = y → y.flat = true → x.flat = true → Abs.sub1 x y → ∃ y, o.at_ ix = some y ∧ HOk F w τ y u ∧ y.pureP := by
  intro y ho hf hx hsub
  subst ho
  obtain ⟨e1, e2⟩ := (HO.at_flat hx).1 g2
  subst e1 e2
  exact ⟨o, (HO.at_flat hf).2 ⟨rfl, rfl⟩, h2.sub1 hsub, hp⟩
 cases o with
 | cells cs => have hs : some x = some (.cells cs) := hs; injection hs with hs; subst hs; exact flat rfl rfl rfl rfl
 | row e esz n f => obtain ⟨n', f', q1, q2, q3⟩ := hs; injection q1 with q1; subst q1; exact flat rfl rfl rfl ⟨n', f', rfl, q2, q3⟩
 | rows e esz n f => exact hp.elim
 | fam D f =>
  obtain ⟨D0, o0, q1, q2⟩ := hs
  injection q1 with q1; subst q1
  have hD := hd ix g3
  simp only [HO.at_, Option.some.injEq] at g2
  subst g2
  exact ⟨f ix, rfl, h2.sub1 (q2 ix hD).2, hp ix hD⟩
theorem frz_sl {F F' : Nat → Prop} {w : World} {τ τ' : Nm → Option Value} (hFF : ∀ k, F k → F' k) {e esz n m c : Nat} {A : Option Addr} {f : Nat → List AV} (h : HOk F w τ (.row e esz n f) (.slice A n c)) (hb : ∀ b, hblk (.slice A n c) = some b → F' b) (hm : m ≤ n) : Rep F' w τ' (.ro esz m f) (.slice A m c) := by
 obtain ⟨xs, hown, hrl, hrr⟩ := h
 refine .ro _ _ _ _ _ _ (fun i j => xs.getD (i * esz + j) undef) ?_ ?_ (fun hm0 => ?_) (fun i hi => hrl i (by omega)) (fun i j x hi hx => (hrr i j x (by omega) hx).mono hFF (fun _ _ => rfl) (fun _ _ h => h))
 ·rcases hown.2 with ⟨h', h0⟩ | ⟨g, cap, cur, hv, _, hg, hnc, hcm, hcs, htk⟩
  ·simp only [Value.slice.injEq] at h'; omega
  ·simp only [Value.slice.injEq] at hv; omega
 ·rcases hown.2 with ⟨h', h0⟩ | ⟨g, cap, cur, hv, _, hg, hnc, hcm, hcs, htk⟩
  ·simp only [Value.slice.injEq] at h'; omega
  ·simp only [Value.slice.injEq] at hv; omega
 ·rcases hown.2 with ⟨h', h0⟩ | ⟨g, cap, cur, hv, _, hg, hnc, hcm, hcs, htk⟩
  ·omega
  ·simp only [Value.slice.injEq] at hv
   obtain ⟨rfl, _, rfl⟩ := hv
   refine ⟨g, 0, rfl, hb g rfl, fun i j hi hj => ?_⟩
   have hlt : i * esz + j < n * esz := by
    have : (i + 1) * esz ≤ n * esz := Nat.mul_le_mul_right _ (by omega)
    rw [Nat.add_mul, Nat.one_mul] at this; omega
   rw [cell_of_row _ _ _ _ _ _ hg]
   have hx : cur[0 + i * esz + j]? = xs[i * esz + j]? := by
    rw [← htk, List.getElem?_take, if_pos hlt]; simp
   rw [hx]
   have : i * esz + j < xs.length := by rw [hown.1]; exact hlt
   simp [List.getElem?_eq_getElem this]
theorem frz_so {F F' : Nat → Prop} {w : World} {τ τ' : Nm → Option Value} (hFF : ∀ k, F k → F' k) {e esz off n m c : Nat} {A : Option Addr} {f : Nat → List AV} (h : HOk F w τ (.row e esz n f) (.slice A n c)) (hb : ∀ b, hblk (.slice A n c) = some b → F' b) (hm : off + m ≤ n) (hnc : n ≤ c) {Z : Option Addr} (hZ : c ≠ off → Z = A.map (·.add (off * esz))) :
  Rep F' w τ' (.ro esz m (fun j => f (off + j))) (.slice Z m (c - off)) := by
 have hr := frz_sl (τ' := τ') hFF h hb (Nat.le_refl n)
 cases hr with
 | ro _ _ _ _ _ _ g p1 p2 p3 p4 p5 =>
  refine .ro _ _ _ _ _ _ (fun i j => g (off + i) j) (by omega) (by omega) (fun hn => ?_) (fun i hi => p4 _ (by omega)) (fun i j x hi hx => p5 _ j x (by omega) hx)
  obtain ⟨b, o, rfl, hb, hc⟩ := p3 (by omega)
  rw [hZ (by omega)]
  refine ⟨b, o + off * esz, by simp [add_none], hb, fun i j hi hj => ?_⟩
  have := hc (off + i) j (by omega) hj
  rw [Nat.add_mul, ← Nat.add_assoc] at this
  exact this
theorem frz_obj {F F' : Nat → Prop} {w : World} {τ τ' : Nm → Option Value} (hFF : ∀ k, F k → F' k) {cs : List AV} {b off : Nat} (h : HOk F w τ (.cells cs) (.pointer (some ⟨b, 0, none⟩))) (hp : AV.pureL cs = true) (hb : F' b) : Rep F' w τ' (.ptr (cs.drop off)) (.pointer (some ⟨b, off, none⟩)) := by
 obtain ⟨b', c, ty, e, h3, h4, h5⟩ := h
 injection e with e; injection e with e; injection e with e; subst e
 refine .ptr _ _ b off (fun j => c.getD (off + j) undef) hb (fun j hj => ?_) (fun j x hx => ?_)
 ·rw [cell_of_row _ _ _ _ _ _ h3]
  have : off + j < c.size := by rw [h4]; simp at hj; omega
  simp [this]
 ·have hx' : cs[off + j]? = some x := by rw [List.getElem?_drop] at hx; exact hx
  exact ((h5 (off + j) x hx').pure (pureL_at hp _ _ hx')).mono hFF (fun _ _ => rfl) (fun _ _ h => h)
theorem frzL_get (id : Nat) (o : HO) : ∀ (cs : List AV) (j : Nat), (AV.frzL id o cs)[j]? = (cs[j]?).map (AV.frz id o)
 | [], j => by simp [AV.frzL]
 | x :: r, 0 => by simp [AV.frzL]
 | x :: r, j + 1 => by simp only [AV.frzL, List.getElem?_cons_succ]; exact frzL_get id o r j
theorem frzL_len (id : Nat) (o : HO) : ∀ (cs : List AV), (AV.frzL id o cs).length = cs.length
 | [] => rfl
 | x :: r => by simp [AV.frzL, frzL_len id o r]
theorem Rep.frz {F F' : Nat → Prop} {w : World} {τ : Nm → Option Value} {id : Nat} {o : HO} (hFF : ∀ k, F k → F' k) {τt : Nm → Option Value}
  (hat : ∀ ix u, τt ⟨id, ix⟩ = some u → (∃ y, o.at_ ix = some y ∧ HOk F w τt y u ∧ y.pureP) ∧ ∀ b, hblk u = some b → F' b)
  {x : AV} {v : Value} (h : Rep F w τ x v) (hτ : ∀ nm u, τ nm = some u → τt nm = some u) : Rep F' w (without τt id) (x.frz id o) v := by
 have lst : ∀ (cs : List AV) (vs : Array Value), (∀ j c, cs[j]? = some c → Rep F' w (without τt id) (c.frz id o) (vs.getD j undef)) → ∀ (j : Nat) (c : AV), (AV.frzL id o cs)[j]? = some c → Rep F' w (without τt id) c (vs.getD j undef) := by
  intro cs vs h j c hc
  rw [frzL_get] at hc
  obtain ⟨y, hy, rfl⟩ := Option.map_eq_some_iff.1 hc
  exact h j y hy
 have keep : ∀ nm u, nm.id ≠ id → τt nm = some u → without τt id nm = some u := fun nm u hne hu => by unfold without; rw [if_neg hne]; exact hu
 induction h with
 | val τ v => exact .val _ v
 | any τ v => exact .any _ v
 | condT τ x v _ ih => exact .condT _ _ v (ih hτ)
 | condF τ x => exact .condF _ _
 | agg τ cs vs hl _ ih => exact .agg _ _ vs (by rw [frzL_len]; exact hl) (lst cs vs fun j c hc => ih j c hc hτ)
 | tup τ cs vs hl _ ih => exact .tup _ _ vs (by rw [frzL_len]; exact hl) (lst cs vs fun j c hc => ih j c hc hτ)
 | fn τ f cs vs hl _ ih => exact .fn _ f _ vs (by rw [frzL_len]; exact hl) (lst cs vs fun j c hc => ih j c hc hτ)
 | ro τ sz n row A c f h1 h2 h3 h4 h5 _ => exact (Rep.ro (F := F) (w := w) (without τt id) sz n row A c f h1 h2 h3 h4 h5).mono hFF (fun _ _ => rfl) (fun _ _ h => h)
 | ptr τ cs b o f h1 h2 h3 _ => exact (Rep.ptr (F := F) (w := w) (without τt id) cs b o f h1 h2 h3).mono hFF (fun _ _ => rfl) (fun _ _ h => h)
 | obj τ nm off b hb =>
  have hb' := hτ nm _ hb
  simp only [AV.frz]
  cases e : Nat.beq nm.id id with
  | false => exact .obj _ nm off b (keep nm _ (by intro h; rw [h] at e; simp at e) hb')
  | true =>
   have e := Nat.eq_of_beq_eq_true e
   obtain ⟨i', ix⟩ := nm
   simp only at e; subst e
   obtain ⟨⟨y, h1, h2, h3⟩, h4⟩ := hat ix _ hb'
   show Rep F' w (without τt i') (viewObj o ix off) _
   have go : ∀ cs, y = .cells cs → Rep F' w (without τt i') (.ptr (cs.drop off)) (.pointer (some ⟨b, off, none⟩)) := fun cs hy => by
    subst hy; exact frz_obj hFF h2 h3 (h4 b rfl)
   cases o with
   | cells cs => obtain ⟨_, rfl⟩ := (HO.at_flat (o := .cells cs) rfl).1 h1; exact go cs rfl
   | row e z n f => exact .any _ _
   | rows e z n f => exact .any _ _
   | fam D g =>
    simp only [HO.at_, Option.some.injEq] at h1
    simp only [viewObj, h1]
    cases y with
    | cells cs => exact go cs rfl
    | _ => exact .any _ _
 | sl τ nm n A m c hb hn hm hA =>
  have hb' := hτ nm _ hb
  simp only [AV.frz]
  cases e : Nat.beq nm.id id with
  | false => exact .sl _ nm n A m c (keep nm _ (by intro h; rw [h] at e; simp at e) hb') hn hm hA
  | true =>
   have e := Nat.eq_of_beq_eq_true e
   obtain ⟨i', ix⟩ := nm
   simp only at e; subst e
   obtain ⟨⟨y, h1, h2, h3⟩, h4⟩ := hat ix _ hb'
   show Rep F' w (without τt i') (viewSl o ix n) _
   have go : ∀ e z k f, y = .row e z k f → Rep F' w (without τt i') (.ro z n f) (.slice A n c) := fun e z k f hy => by
    subst hy
    obtain ⟨xs, hown, _⟩ := id h2
    have := own_form hown
    subst this
    exact frz_sl hFF h2 h4 hn
   cases o with
   | cells cs => exact .any _ _
   | row e z k f => obtain ⟨_, rfl⟩ := (HO.at_flat (o := .row e z k f) rfl).1 h1; exact go e z k f rfl
   | rows e z k f => exact .any _ _
   | fam D g =>
    simp only [HO.at_, Option.some.injEq] at h1
    simp only [viewSl, h1]
    cases y with
    | row e z k f => exact go e z k f rfl
    | _ => exact .any _ _
 | so τ nm esz off n A m c Z hb hn hm hA hZ hZ2 =>
  have hb' := hτ nm _ hb
  simp only [AV.frz]
  cases e : Nat.beq nm.id id with
  | false => exact .so _ nm esz off n A m c Z (keep nm _ (by intro h; rw [h] at e; simp at e) hb') hn hm hA hZ hZ2
  | true =>
   have e := Nat.eq_of_beq_eq_true e
   obtain ⟨i', ix⟩ := nm
   simp only at e; subst e
   obtain ⟨⟨y, h1, h2, h3⟩, h4⟩ := hat ix _ hb'
   show Rep F' w (without τt i') (viewSo o ix esz off n) _
   have go : ∀ e z k f, y = .row e z k f → Rep F' w (without τt i') (bif Nat.beq esz z then .ro esz n (fun j => f (off + j)) else .any) (.slice Z n (c - off)) := fun e z k f hy => by
    subst hy
    cases ez : Nat.beq esz z with
    | false => exact .any _ _
    | true =>
     have ez := Nat.eq_of_beq_eq_true ez
     subst ez
     have hown : ∃ xs, w.ownsRow 0 e esz (.slice A m c) k xs := by obtain ⟨xs, hown, _⟩ := id h2; exact ⟨xs, hown⟩
     obtain ⟨xs, hown⟩ := hown
     have hmk := own_form hown
     subst hmk
     exact frz_so hFF h2 h4 hn hm hZ
   cases o with
   | cells cs => exact .any _ _
   | row e z k f => obtain ⟨_, rfl⟩ := (HO.at_flat (o := .row e z k f) rfl).1 h1; exact go e z k f rfl
   | rows e z k f => exact .any _ _
   | fam D g =>
    simp only [HO.at_, Option.some.injEq] at h1
    simp only [viewSo, h1]
    cases y with
    | row e z k f => exact go e z k f rfl
    | _ => exact .any _ _
 | rp τ nm esz i off b m c hb =>
  simp only [AV.frz]
  cases e : Nat.beq nm.id id with
  | false => exact .rp _ nm esz i off b m c (keep nm _ (by intro h; rw [h] at e; simp at e) (hτ nm _ hb))
  | true => exact .any _ _
theorem frzO_at (id : Nat) (o : HO) (y : HO) (ix : List Nat) : (frzH id o y).at_ ix = (y.at_ ix).map (frzH id o) := by
 cases y <;> cases ix <;> rfl
theorem frzO_in (id : Nat) (o : HO) (y : HO) (ix : List Nat) : (frzH id o y).in_ ix ↔ y.in_ ix := by
 cases y <;> exact Iff.rfl
theorem RelA.freezeW {cx τ F s a w} (h : RelA cx τ F s a w) {id : Nat} {o : HO} (hs : subHO (look s.heap id) o) (hd : domSame (look s.heap id) o) (hp : o.pureP) : ∃ τ' F', RelA cx τ' F' (s.frz id o) a w ∧ (∀ k, F k → F' k) ∧ ∀ nm u, τ nm = some u → τ' nm = some u ∨ ∀ b, hblk u = some b → F' b := by
 let F' : Nat → Prop := fun k => F k ∨ ∃ ix u, τ ⟨id, ix⟩ = some u ∧ hblk u = some k
 have hFF : ∀ k, F k → F' k := fun k hk => .inl hk
 have hwo : ∀ i v, without τ id i = some v → i.id ≠ id ∧ τ i = some v := fun i v hv => by
  unfold without at hv
  split at hv
  ·cases hv
  ·rename_i e; exact ⟨e, hv⟩
 have hat : ∀ ix u, τ ⟨id, ix⟩ = some u → (∃ y, o.at_ ix = some y ∧ HOk F w τ y u ∧ y.pureP) ∧ ∀ b, hblk u = some b → F' b := fun ix u hu => ⟨frz_at h.wr hs hd hp hu, fun b hb => .inr ⟨ix, u, hu, hb⟩⟩
 have hrep : ∀ x v, Rep F w τ x v → Rep F' w (without τ id) (x.frz id o) v := fun x v hr => hr.frz hFF hat (fun _ _ h => h)
 have hrep0 : ∀ x v τq, Rep F w τq x v → Rep F' w τq x v := fun x v τq hr => hr.mono hFF (fun _ _ => rfl) (fun _ _ h => h)
 have hasF : ∀ {nm : Nm} {y : HO}, Has (s.frz id o).heap nm y ↔ nm.id ≠ id ∧ ∃ y0, Has s.heap nm y0 ∧ y = frzH id o y0 := by
  intro nm y
  unfold Has
  simp only [St.frz]
  rw [look_map (fun z : HO => frzH id o z), look_filter]
  by_cases e : nm.id = id
  ·simp [e]
  ·simp only [e, if_false, ne_eq, not_false_eq_true, true_and]
   constructor
   ·rintro ⟨x, h1, h2, h3⟩
    obtain ⟨x0, g1, rfl⟩ := Option.map_eq_some_iff.1 h1
    rw [frzO_at] at h2
    obtain ⟨y0, g2, rfl⟩ := Option.map_eq_some_iff.1 h2
    exact ⟨y0, ⟨x0, g1, g2, (frzO_in _ _ _ _).1 h3⟩, rfl⟩
   ·rintro ⟨y0, ⟨x0, h1, h2, h3⟩, rfl⟩
    exact ⟨_, by rw [h1]; rfl, by rw [frzO_at, h2]; rfl, (frzO_in _ _ _ _).2 h3⟩
 refine ⟨without τ id, F', ?_, hFF, fun nm u hu => ?_⟩
 rotate_left
 ·by_cases e : nm.id = id
  ·refine .inr fun b hb => .inr ⟨nm.ix, u, ?_, hb⟩
   rw [← e]; exact hu
  ·refine .inl ?_
   unfold without; rw [if_neg e]; exact hu
 refine ⟨⟨h.wr.keeps, fun k hk => ?_, fun k i v hk hv e => ?_, fun k hk => ?_, fun k hk => hFF k (h.wr.fsup k hk), fun i v b hv => h.wr.tlt i v b (hwo i v hv).2, fun i i' v v' b hv hv' => h.wr.inj i i' v v' b (hwo i v hv).2 (hwo i' v' hv').2, fun i y hl => ?_, fun i v hv => ?_, fun i v ho hv => h.wr.old i v ho (hwo i v hv).2, h.wr.cxn⟩, h.size, h.defers, fun t x ht => ?_⟩
 ·rcases hk with hk | ⟨ix, u, hu, hb⟩
  ·exact h.wr.fz k hk
  ·exact (h.wr.tlt _ u k hu hb).2
 ·rcases hk with hk | ⟨ix, u, hu, hb⟩
  ·exact h.wr.fne k i v hk (hwo i v hv).2 e
  ·have := h.wr.inj i ⟨id, ix⟩ v u k (hwo i v hv).2 hu e hb
   exact (hwo i v hv).1 (by rw [this])
 ·rcases hk with hk | ⟨ix, u, hu, hb⟩
  ·exact h.wr.fsub k hk
  ·exact .inr (h.wr.tlt _ u k hu hb).1
 ·obtain ⟨hne, y0, hy, rfl⟩ := hasF.1 hl
  obtain ⟨v, q1, q2⟩ := h.wr.obj i y0 hy
  refine ⟨v, by unfold without; rw [if_neg hne]; exact q1, ?_⟩
  cases y0 with
  | cells cs =>
   obtain ⟨b, c, ty, rfl, r1, r2, r3⟩ := q2
   refine ⟨b, c, ty, rfl, r1, by rw [frzL_len]; exact r2, fun j x hx => ?_⟩
   rw [frzL_get] at hx
   obtain ⟨y, hy, rfl⟩ := Option.map_eq_some_iff.1 hx
   exact hrep _ _ (r3 j y hy)
  | row e esz n row =>
   obtain ⟨xs, r1, r2, r3⟩ := q2
   exact ⟨xs, r1, r2, fun i j x hi hx => hrep0 _ _ _ (r3 i j x hi hx)⟩
  | rows e esz n row =>
   obtain ⟨xs, r1, r2, r3⟩ := q2
   refine ⟨xs, r1, fun i hi => by rw [frzL_len]; exact r2 i hi, fun i j x hi hx => ?_⟩
   rw [frzL_get] at hx
   obtain ⟨y, hy, rfl⟩ := Option.map_eq_some_iff.1 hx
   exact hrep _ _ (r3 i j y hi hy)
  | fam D f => exact q2.elim
 ·obtain ⟨hne, hv⟩ := hwo i v hv
  obtain ⟨y, hy⟩ := h.wr.dom i v hv
  exact ⟨_, hasF.2 ⟨hne, y, hy, rfl⟩⟩
 ·simp only [St.frz] at ht
  rw [look_map (fun x : AV => x.frz id o)] at ht
  obtain ⟨y, hy, rfl⟩ := Option.map_eq_some_iff.1 ht
  exact ⟨(h.env t y hy).1, hrep _ _ (h.env t y hy).2⟩
theorem RelA.freeze {cx τ F s a w} (h : RelA cx τ F s a w) {id : Nat} {o : HO} (hs : subHO (look s.heap id) o) (hd : domSame (look s.heap id) o) (hp : o.pureP) : Rel cx (s.frz id o) a w :=
 let ⟨τ', F', h', _⟩ := h.freezeW hs hd hp; ⟨τ', F', h'⟩
/-! ### A name turned -/
def St.ren (s : St) (i j : Nat) : St := { env := s.env.map fun x => (x.1, x.2.sig [(i, j)]), heap := sigH [(i, j)] s.heap }
def renT (τ : Nm → Option Value) (i j : Nat) : Nm → Option Value := fun nm => if nm.id = j then τ ⟨i, nm.ix⟩ else if nm.id = i then none else τ nm
theorem sg1 (i j k : Nat) : sg [(i, j)] k = if k = i then j else k := by
 unfold sg; rw [look_cons]
 by_cases e : k = i
 ·simp [e]
 ·simp [e, look]
theorem RelA.ren {cx τ F s a w} (h : RelA cx τ F s a w) {i j : Nat} (hij : i ≠ j) (hf : look s.heap j = none) (hj : j < 1000) : Rel cx (s.ren i j) a w := by
 have nj : ∀ nm u, τ nm = some u → nm.id ≠ j := fun nm u hu e => by
  obtain ⟨o, ho⟩ := h.wr.dom nm u hu
  have := ho.isSome; rw [e, hf] at this; cases this
 have fwd : ∀ nm u, τ nm = some u → renT τ i j (sgN [(i, j)] nm) = some u := fun nm u hu => by
  unfold renT sgN
  simp only [sg1]
  by_cases e : nm.id = i
  ·simp only [e, if_true]; rw [← e]; exact hu
  ·simp only [e, if_false, nj nm u hu]; exact hu
 have bwd : ∀ nm u, renT τ i j nm = some u → ∃ nm0, τ nm0 = some u ∧ sgN [(i, j)] nm0 = nm := fun nm u hu => by
  unfold renT at hu
  split at hu
  ·rename_i e; exact ⟨_, hu, by unfold sgN; simp only [sg1, if_true]; cases nm; simp only at e; rw [e]⟩
  ·split at hu
   ·cases hu
   ·rename_i e1 e2; exact ⟨nm, hu, by unfold sgN; simp only [sg1, e2, if_false]⟩
 have hinj : ∀ a ∈ s.heap.map (·.1), ∀ k, k ≠ j → sg [(i, j)] a = sg [(i, j)] k → a = k := fun a ha k hk e => by
  have haj : a ≠ j := fun e2 => by
   have := look_isSome.2 ha
   rw [e2, hf] at this; cases this
  rw [sg1, sg1] at e
  split at e <;> split at e
  ·rename_i e1 e2; rw [e1, e2]
  ·exact absurd e.symm hk
  ·exact absurd e haj
  ·exact e
 have hlook : ∀ k, k ≠ j → look (sigH [(i, j)] s.heap) (sg [(i, j)] k) = (look s.heap k).map (HO.sig [(i, j)]) := fun k hk => look_sigH fun a ha e => hinj a ha k hk e
 refine ⟨renT τ i j, F, ⟨h.wr.keeps, h.wr.fz, fun k nm v hk hv => ?_, h.wr.fsub, h.wr.fsup, fun nm v b hv hb => ?_, fun nm nm' v v' b hv hv' hb hb' => ?_, fun nm o hl => ?_, fun nm v hv => ?_, fun nm v ho hv => ?_, h.wr.cxn⟩, h.size, h.defers, fun t x ht => ?_⟩
 ·obtain ⟨n0, h1, _⟩ := bwd nm v hv; exact h.wr.fne k n0 v hk h1
 ·obtain ⟨n0, h1, _⟩ := bwd nm v hv; exact h.wr.tlt n0 v b h1 hb
 ·obtain ⟨n0, h1, e1⟩ := bwd nm v hv
  obtain ⟨n1, h2, e2⟩ := bwd nm' v' hv'
  rw [← e1, ← e2, h.wr.inj n0 n1 v v' b h1 h2 hb hb']
 ·obtain ⟨x, g1, g2, g3⟩ := hl
  obtain ⟨k, hk1, hk2⟩ := look_sigH_some g1
  have hkj : k ≠ j := fun e => by
   have := look_isSome.2 hk1
   rw [e, hf] at this; cases this
  have g1 : look (sigH [(i, j)] s.heap) nm.id = some x := g1
  rw [← hk2, hlook k hkj] at g1
  obtain ⟨y0, hy0, rfl⟩ := Option.map_eq_some_iff.1 g1
  rw [sig_at] at g2
  obtain ⟨o0, g2', rfl⟩ := Option.map_eq_some_iff.1 g2
  obtain ⟨v, q1, q2⟩ := h.wr.obj ⟨k, nm.ix⟩ o0 ⟨y0, hy0, g2', (sig_in _ _ _).1 g3⟩
  refine ⟨v, ?_, q2.sig fwd⟩
  have := fwd _ _ q1
  have e : sgN [(i, j)] ⟨k, nm.ix⟩ = nm := by cases nm; simp only [sgN] at hk2 ⊢; rw [hk2]
  rwa [e] at this
 ·obtain ⟨n0, h1, e1⟩ := bwd nm v hv
  obtain ⟨o, y, g1, g2, g3⟩ := h.wr.dom n0 v h1
  refine ⟨o.sig _, y.sig [(i, j)], ?_, by rw [← e1, sig_at]; show (y.at_ n0.ix).map _ = _; rw [g2]; rfl, by rw [← e1]; exact (sig_in _ _ _).2 g3⟩
  show look (sigH [(i, j)] s.heap) nm.id = _
  rw [← e1]
  show look (sigH [(i, j)] s.heap) (sg _ n0.id) = _
  rw [hlook _ (nj n0 v h1), g1]; rfl
 ·obtain ⟨n0, h1, e1⟩ := bwd nm v hv
  have e2 : nm.id = if n0.id = i then j else n0.id := by rw [← e1]; exact sg1 i j n0.id
  by_cases e : n0.id = i
  ·rw [if_pos e] at e2; omega
  ·rw [if_neg e] at e2
   have : nm = n0 := by rw [← e1]; unfold sgN; simp only [sg1, e, if_false]
   rw [this] at ho ⊢; exact h.wr.old n0 v ho h1
 ·simp only [St.ren] at ht
  rw [look_map (fun x : AV => x.sig [(i, j)])] at ht
  obtain ⟨y, hy, rfl⟩ := Option.map_eq_some_iff.1 ht
  exact ⟨(h.env t y hy).1, (h.env t y hy).2.sig fwd⟩
section
variable {B : Tabs} {n : Nat} {s : St} {Q : Exit → St → Prop} {c : Code}
theorem AWp.rename (i j : Nat) (hij : (!Nat.beq i j && Nat.blt j 1000) = true) (hf : look s.heap j = none) (h : AWp B n c (s.ren i j) Q) : AWp B n c s Q :=
 fun cx hP hn a w ⟨_, _, hr⟩ => h cx hP hn a w (by
  rw [Bool.and_eq_true] at hij
  exact hr.ren (by rintro rfl; simp at hij) hf (blt_lt hij.2))
theorem AWp.freezeO (id : Nat) (o : HO) (hs : subHO (look s.heap id) o) (hd : domSame (look s.heap id) o) (hp : o.pureP) (h : AWp B n c (s.frz id o) Q) : AWp B n c s Q :=
 fun cx hP hn a w ⟨_, _, hr⟩ => h cx hP hn a w (hr.freeze hs hd hp)
theorem AWp.freeze (id : Nat) {e esz m : Nat} {f : Nat → List AV} (f' : Nat → List AV) (hl : look s.heap id = some (.row e esz m f)) (hf : ∀ i, i < m → f' i = f i) (h : AWp B n c (s.frz id (.row e esz m f')) Q) : AWp B n c s Q :=
 AWp.freezeO id (.row e esz m f') ⟨m, f, hl, rfl, hf⟩ (by rw [hl]; trivial) trivial h
theorem AWp.freezeObj (id : Nat) {cs : List AV} (hl : look s.heap id = some (.cells cs)) (hp : AV.pureL cs = true) (h : AWp B n c (s.frz id (.cells cs)) Q) : AWp B n c s Q :=
 AWp.freezeO id (.cells cs) hl (by rw [hl]; trivial) hp h
theorem AWp.adopt (t d e esz : Nat) (hd : Nat.blt d 1000 = true) (hl : look s.env t = some (.val (.slice none 0 0))) (hf : look s.heap d = none) (h : AWp B n c { env := (t, .sl ⟨d, []⟩ 0) :: s.env, heap := (d, .row e esz 0 fun _ => []) :: s.heap } Q) : AWp B n c s Q := by
 intro cx hP hn a w ⟨τ, F, hr⟩
 refine h cx hP hn a w ?_
 have hd := blt_lt hd
 have hv : a.tmps.getD t undef = .slice none 0 0 := by
  have := (hr.env t _ hl).2
  generalize a.tmps.getD t undef = v at this
  cases this; rfl
 have htn := (hr.env t _ hl).1
 have hown : w.ownsRow 0 e esz (.slice none 0 0) 0 [] := ⟨by simp, .inl ⟨rfl, rfl⟩⟩
 have hnone : ∀ ix, τ ⟨d, ix⟩ = none := fun ix => by
  cases e : τ ⟨d, ix⟩ with
  | none => rfl
  | some v' => obtain ⟨o', ho'⟩ := hr.wr.dom _ v' e; have := ho'.isSome; rw [hf] at this; cases this
 let τ' : Nm → Option Value := fun nm => if nm.id = d ∧ nm.ix = [] then some (.slice none 0 0) else τ nm
 have hτ : ∀ id u, τ id = some u → τ' id = some u := fun id u hu => by
  show (if id.id = d ∧ id.ix = [] then some (Value.slice none 0 0) else τ id) = some u
  rw [if_neg (by rintro ⟨e1, e2⟩; obtain ⟨id, ix⟩ := id; simp only at e1 e2; subst e1 e2; rw [hnone] at hu; cases hu)]; exact hu
 have hτd : τ' ⟨d, []⟩ = some (.slice none 0 0) := if_pos ⟨rfl, rfl⟩
 have hinv : ∀ id u, τ' id = some u → (id = ⟨d, []⟩ ∧ u = .slice none 0 0) ∨ (id ≠ ⟨d, []⟩ ∧ τ id = some u) := fun id u hu => by
  have hu' : (if id.id = d ∧ id.ix = [] then some (Value.slice none 0 0) else τ id) = some u := hu
  split at hu'
  ·rename_i e; injection hu' with hu'; exact .inl ⟨by obtain ⟨id, ix⟩ := id; obtain ⟨e1, e2⟩ := e; simp only at e1 e2; rw [e1, e2], hu'.symm⟩
  ·rename_i e; exact .inr ⟨fun h => e (by rw [h]; exact ⟨rfl, rfl⟩), hu'⟩
 refine ⟨τ', F, ⟨hr.wr.keeps, hr.wr.fz, fun k id u hFk hu => ?_, hr.wr.fsub, hr.wr.fsup, fun id u b hu hbk => ?_, fun id id' u u' b hu hu' hb1 hb2 => ?_, fun id o' hl => ?_, fun id u hu => ?_, fun id u ho hu => ?_, hr.wr.cxn⟩, hr.size, hr.defers, fun t' y ht => ?_⟩
 ·rcases hinv id u hu with ⟨_, rfl⟩ | ⟨_, hu⟩
  ·simp [hblk]
  ·exact hr.wr.fne k id u hFk hu
 ·rcases hinv id u hu with ⟨_, rfl⟩ | ⟨_, hu2⟩
  ·simp [hblk] at hbk
  ·exact hr.wr.tlt id u b hu2 hbk
 ·rcases hinv id u hu with ⟨_, e2⟩ | ⟨_, k1⟩ <;> rcases hinv id' u' hu' with ⟨_, e4⟩ | ⟨_, k2⟩
  ·subst e2; simp [hblk] at hb1
  ·subst e2; simp [hblk] at hb1
  ·subst e4; simp [hblk] at hb2
  ·exact hr.wr.inj id id' u u' b k1 k2 hb1 hb2
 ·rcases (has_cons (by rfl)).1 hl with ⟨rfl, rfl⟩ | ⟨hne, hl⟩
  ·exact ⟨_, hτd, [], hown, fun i hi => absurd hi (by omega), fun i j x hi => absurd hi (by omega)⟩
  ·obtain ⟨u, h1, h2⟩ := hr.wr.obj id o' hl
   exact ⟨u, hτ id u h1, h2.mono (fun _ h => h) (fun _ _ => rfl) hτ fun _ _ => rfl⟩
 ·rw [has_cons_ex (by rfl)]
  rcases hinv id u hu with ⟨rfl, _⟩ | ⟨hne, hu⟩
  ·exact .inl rfl
  ·obtain ⟨o', ho'⟩ := hr.wr.dom id u hu
   exact .inr ⟨(fun e => by have := ho'.isSome; rw [e, hf] at this; cases this), o', ho'⟩
 ·rcases hinv id u hu with ⟨rfl, _⟩ | ⟨_, hu⟩
  ·simp only at ho; omega
  ·exact hr.wr.old id u ho hu
 ·rw [look_cons] at ht
  split at ht
  ·rename_i e0; subst e0; injection ht with ht; subst ht
   exact ⟨htn, by rw [hv]; exact own_sl hown hτd⟩
  ·obtain ⟨h1, h2⟩ := hr.env t' y ht
   exact ⟨h1, h2.mono (fun _ h => h) (fun _ _ => rfl) hτ⟩
end
end Go.Abs
set_option linter.unusedSimpArgs false
set_option linter.unusedVariables false
namespace Go.Abs
open Go Go.RowKit
def AV.bad : AV := .ro 1 1 fun _ => []
theorem bad_not {F : Nat → Prop} {w : World} {τ : Nm → Option Value} {v : Value} (h : Rep F w τ AV.bad v) : False := by
 cases h with
 | ro _ _ _ _ A c f h1 h2 h3 h4 h5 => have := h4 0 (by omega); cases this
mutual
def AV.rn (ρ : Nm → Option Nm) : AV → AV
 | .val v => .val v
 | .any => .any
 | .ro sz n row => .ro sz n row
 | .ptr cs => .ptr cs
 | .cond g x => .cond g (AV.rn ρ x)
 | .agg cs => .agg (AV.rnL ρ cs)
 | .tup cs => .tup (AV.rnL ρ cs)
 | .fn f cs => .fn f (AV.rnL ρ cs)
 | .obj nm off => (match ρ nm with | some a => .obj a off | none => AV.bad)
 | .sl nm n => (match ρ nm with | some a => .sl a n | none => (match n with | 0 => .val (.slice none 0 0) | _ + 1 => AV.bad))
 | .so nm esz off n => (match ρ nm with | some a => .so a esz off n | none => AV.bad)
 | .rp nm esz i off => (match ρ nm with | some a => .rp a esz i off | none => AV.bad)
def AV.rnL (ρ : Nm → Option Nm) : List AV → List AV
 | [] => []
 | x :: r => AV.rn ρ x :: AV.rnL ρ r
end
theorem rnL_get (ρ : Nm → Option Nm) : ∀ (cs : List AV) (j : Nat), (AV.rnL ρ cs)[j]? = (cs[j]?).map (AV.rn ρ)
 | [], j => by simp [AV.rnL]
 | x :: r, 0 => by simp [AV.rnL]
 | x :: r, j + 1 => by simp [AV.rnL, rnL_get ρ r j]
theorem rnL_len (ρ : Nm → Option Nm) : ∀ (cs : List AV), (AV.rnL ρ cs).length = cs.length
 | [] => rfl
 | x :: r => by simp [AV.rnL, rnL_len ρ r]
def viaT (τ : Nm → Option Value) (ρ : Nm → Option Nm) (nm : Nm) : Option Value := match ρ nm with
 | some a => τ a
 | none => some (.slice none 0 0)
mutual
theorem unrn {F : Nat → Prop} {w : World} {τ τ' : Nm → Option Value} {ρ : Nm → Option Nm} {p : Nm → Prop} (hτ : ∀ nm, p nm → τ' nm = viaT τ ρ nm) : ∀ {x : AV} {v : Value}, AV.refsP p x → Rep F w τ (x.rn ρ) v → Rep F w τ' x v
 | .val _, v, _, h => by cases h; exact .val _ _
 | .any, v, _, h => .any _ _
 | .cond g x, v, hp, h => by
  cases h with
  | condT _ _ _ h => exact .condT _ _ _ (unrn hτ hp h)
  | condF => exact .condF _ _
 | .agg cs, v, hp, h => by
  cases h with
  | agg _ _ vs hl h => exact .agg _ _ vs (by rw [rnL_len] at hl; exact hl) (unrnL hτ vs hp h)
 | .tup cs, v, hp, h => by
  cases h with
  | tup _ _ vs hl h => exact .tup _ _ vs (by rw [rnL_len] at hl; exact hl) (unrnL hτ vs hp h)
 | .fn f cs, v, hp, h => by
  cases h with
  | fn _ _ _ vs hl h => exact .fn _ f _ vs (by rw [rnL_len] at hl; exact hl) (unrnL hτ vs hp h)
 | .ro _ _ _, v, _, h => by
  cases h with
  | ro _ _ _ _ A c f h1 h2 h3 h4 h5 => exact .ro _ _ _ _ A c f h1 h2 h3 h4 h5
 | .ptr _, v, _, h => by
  cases h with
  | ptr _ _ b o f h1 h2 h3 => exact .ptr _ _ b o f h1 h2 h3
 | .obj nm off, v, hp, h => by
  have e := hτ nm hp
  simp only [AV.rn] at h
  simp only [viaT] at e
  cases hr : ρ nm with
  | none => rw [hr] at h; exact (bad_not h).elim
  | some a =>
   rw [hr] at h e
   cases h with
   | obj _ _ _ b hb => exact .obj _ _ _ b (e.trans hb)
 | .sl nm n, v, hp, h => by
  have e := hτ nm hp
  simp only [AV.rn] at h
  simp only [viaT] at e
  cases hr : ρ nm with
  | none =>
   rw [hr] at h e
   cases n with
   | succ k => exact (bad_not h).elim
   | zero => cases h; exact .sl _ _ 0 none 0 0 e (Nat.le_refl _) (Nat.le_refl _) (fun h => absurd h (by omega))
  | some a =>
   rw [hr] at h e
   cases h with
   | sl _ _ _ A m c hb h1 h2 h3 => exact .sl _ _ _ A m c (e.trans hb) h1 h2 h3
 | .so nm esz off n, v, hp, h => by
  have e := hτ nm hp
  simp only [AV.rn] at h
  simp only [viaT] at e
  cases hr : ρ nm with
  | none => rw [hr] at h; exact (bad_not h).elim
  | some a =>
   rw [hr] at h e
   cases h with
   | so _ _ _ _ _ A m c Z hb h1 h2 h3 h4 h5 => exact .so _ _ _ _ _ A m c Z (e.trans hb) h1 h2 h3 h4 h5
 | .rp nm esz i off, v, hp, h => by
  have e := hτ nm hp
  simp only [AV.rn] at h
  simp only [viaT] at e
  cases hr : ρ nm with
  | none => rw [hr] at h; exact (bad_not h).elim
  | some a =>
   rw [hr] at h e
   cases h with
   | rp _ _ _ _ _ b m c hb => exact .rp _ _ _ _ _ b m c (e.trans hb)
theorem unrnL {F : Nat → Prop} {w : World} {τ τ' : Nm → Option Value} {ρ : Nm → Option Nm} {p : Nm → Prop} (hτ : ∀ nm, p nm → τ' nm = viaT τ ρ nm) (vs : Array Value) : ∀ {cs : List AV}, AV.refsPL p cs → (∀ (j : Nat) (c : AV), (AV.rnL ρ cs)[j]? = some c → Rep F w τ c (vs.getD j undef)) → ∀ (j : Nat) (c : AV), cs[j]? = some c → Rep F w τ' c (vs.getD j undef)
 | [], _, _, j, c, h => by simp at h
 | x :: r, hp, h, 0, c, hc => by
  simp at hc; subst hc
  exact unrn hτ hp.1 (h 0 _ rfl)
 | x :: r, hp, h, j + 1, c, hc => by
  have := unrnL hτ (vs.extract 1 vs.size) hp.2 (fun j c hc => by
   have := h (j + 1) c (by simpa [AV.rnL] using hc)
   have e : (vs.extract 1 vs.size).getD j undef = vs.getD (j + 1) undef := by
    simp only [Array.getD_eq_getD_getElem?, Array.getElem?_extract]
    split
    ·rw [Nat.add_comm]
    ·rename_i hh
     rw [Array.getElem?_eq_none (by omega)]
   rw [e]; exact this) j c (by simpa using hc)
  have e : (vs.extract 1 vs.size).getD j undef = vs.getD (j + 1) undef := by
   simp only [Array.getD_eq_getD_getElem?, Array.getElem?_extract]
   split
   ·rw [Nat.add_comm]
   ·rename_i hh
    rw [Array.getElem?_eq_none (by omega)]
  rw [e] at this; exact this
end
def via1 (ρ : Nm → Option Nm) (o0 : HO) : HO → Prop
 | .cells cs => o0 = .cells (AV.rnL ρ cs)
 | .row e esz n f => (∃ f0, o0 = .row e esz n f0 ∧ ∀ i, i < n → f0 i = f i) ∨ ∃ f0, o0 = .rows e esz n f0 ∧ ∀ i, i < n → f0 i = f i ∧ AV.pureL (f i) = true
 | .rows e esz n f => (∃ f0, o0 = .rows e esz n f0 ∧ ∀ i, i < n → f0 i = AV.rnL ρ (f i)) ∨ ∃ f0, o0 = .row e esz n f0 ∧ ∀ i, i < n → f0 i = AV.rnL ρ (f i)
 | .fam _ _ => False
def viaO (ρ : Nm → Option Nm) (h : List (Nat × HO)) (nm : Nm) (o : HO) : Prop :=
 match ρ nm with
 | some a => ∃ o0, Has h a o0 ∧ via1 ρ o0 o
 | none => ∃ e esz f, o = .row e esz 0 f
def viaH (ρ : Nm → Option Nm) (h : List (Nat × HO)) (p : Nm → Prop) : List (Nat × HO) → Prop
 | [] => True
 | (k, o) :: r => (match o with
  | .fam D f => ∀ ix, D ix → viaO ρ h ⟨k, ix⟩ (f ix) ∧ (f ix).refsP p
  | o => viaO ρ h ⟨k, []⟩ o ∧ o.refsP p) ∧ viaH ρ h p r
def viaE (ρ : Nm → Option Nm) (p : Nm → Prop) (e : List (Nat × AV)) : List (Nat × AV) → Prop
 | [] => True
 | (t, x) :: r => look e t = some (x.rn ρ) ∧ AV.refsP p x ∧ viaE ρ p e r
theorem viaE_at {ρ : Nm → Option Nm} {p : Nm → Prop} {e : List (Nat × AV)} : ∀ {l : List (Nat × AV)}, viaE ρ p e l → ∀ t x, look l t = some x → look e t = some (x.rn ρ) ∧ AV.refsP p x
 | [], _, _, _, h => by cases h
 | (k, y) :: r, hv, t, x, h => by
  rw [look_cons] at h
  split at h
  ·rename_i e; subst e; injection h with h; subst h; exact ⟨hv.1, hv.2.1⟩
  ·exact viaE_at hv.2.2 t x h
theorem viaH_at {ρ : Nm → Option Nm} {p : Nm → Prop} {h : List (Nat × HO)} : ∀ {l : List (Nat × HO)}, viaH ρ h p l → ∀ {nm : Nm} {o : HO}, Has l nm o → viaO ρ h nm o ∧ o.refsP p
 | [], _, nm, o, hh => by obtain ⟨x, h1, _⟩ := hh; cases h1
 | (k, y) :: r, hv, nm, o, hh => by
  obtain ⟨x, h1, h2, h3⟩ := hh
  rw [look_cons] at h1
  split at h1
  ·rename_i e
   injection h1 with h1; subst h1
   obtain ⟨id, ix⟩ := nm
   simp only at e; subst e
   cases y with
   | fam D f =>
    simp only [HO.at_, Option.some.injEq] at h2
    subst h2
    exact hv.1 ix h3
   | _ =>
    obtain ⟨rfl, rfl⟩ := (HO.at_flat rfl).1 h2
    exact hv.1
  ·exact viaH_at hv.2 ⟨x, h1, h2, h3⟩
def Via (ρ : Nm → Option Nm) (s' s : St) : Prop :=
 viaE ρ (domP s'.heap) s.env s'.env ∧ viaH ρ s.heap (domP s'.heap) s'.heap ∧ (∀ a b c, domP s'.heap a → domP s'.heap b → ρ a = some c → ρ b = some c → a = b) ∧ ∀ a, domP s'.heap a → 1000 ≤ a.id → ρ a = some a
theorem RelA.via {cx τ F s s' a w} (h : RelA cx τ F s a w) {ρ : Nm → Option Nm} (hv : Via ρ s' s) : Rel cx s' a w := by
 obtain ⟨hE, hH, hinj, hold⟩ := hv
 let τ' : Nm → Option Value := fun nm => open Classical in if domP s'.heap nm then viaT τ ρ nm else none
 have hτ : ∀ nm u, τ' nm = some u → domP s'.heap nm ∧ ((∃ b, ρ nm = some b ∧ τ b = some u) ∨ u = .slice none 0 0) := fun nm u hu => by
  have hu' : (open Classical in if domP s'.heap nm then viaT τ ρ nm else none) = some u := hu
  split at hu'
  ·rename_i e
   refine ⟨e, ?_⟩
   unfold viaT at hu'
   split at hu'
   ·rename_i b hb; exact .inl ⟨b, hb, hu'⟩
   ·injection hu' with hu'; exact .inr hu'.symm
  ·cases hu'
 have hτ2 : ∀ nm, domP s'.heap nm → τ' nm = viaT τ ρ nm := fun nm h => if_pos h
 refine ⟨τ', F, ⟨h.wr.keeps, h.wr.fz, fun k nm v hk hv hb => ?_, h.wr.fsub, h.wr.fsup, fun nm v b hv hb => ?_, fun nm nm' v v' b hv hv' hb hb' => ?_, fun nm o hl => ?_, fun nm v hv => has_of_dom (hτ nm v hv).1, fun nm v ho hv => ?_, h.wr.cxn⟩, h.size, h.defers, fun t x ht => ?_⟩
 ·obtain ⟨_, ⟨b, _, h2⟩ | rfl⟩ := hτ nm v hv
  ·exact h.wr.fne k b v hk h2 hb
  ·cases hb
 ·obtain ⟨_, ⟨b', _, h2⟩ | rfl⟩ := hτ nm v hv
  ·exact h.wr.tlt b' v b h2 hb
  ·cases hb
 ·obtain ⟨d1, ⟨b1, h1, h2⟩ | rfl⟩ := hτ nm v hv
  ·obtain ⟨d2, ⟨b2, h3, h4⟩ | rfl⟩ := hτ nm' v' hv'
   ·have := h.wr.inj b1 b2 v v' b h2 h4 hb hb'
    subst this
    exact hinj nm nm' b1 d1 d2 h1 h3
   ·cases hb'
  ·cases hb
 ·obtain ⟨q1, q2⟩ := viaH_at hH hl
  have hd := domP_of hl
  unfold viaO at q1
  cases hr : ρ nm with
  | none =>
   rw [hr] at q1
   obtain ⟨e, esz, f, rfl⟩ := q1
   refine ⟨.slice none 0 0, by rw [hτ2 nm hd]; unfold viaT; rw [hr], [], ⟨by simp, .inl ⟨rfl, rfl⟩⟩, fun i hi => absurd hi (by omega), fun i j x hi => absurd hi (by omega)⟩
  | some b =>
   rw [hr] at q1
   obtain ⟨o0, g1, g2⟩ := q1
   obtain ⟨u, u1, u2⟩ := h.wr.obj b o0 g1
   refine ⟨u, by rw [hτ2 nm hd]; unfold viaT; rw [hr]; exact u1, ?_⟩
   cases o with
   | cells cs =>
    have g2 : o0 = .cells (AV.rnL ρ cs) := g2
    subst g2
    obtain ⟨b', c, ty, rfl, h3, h4, h5⟩ := u2
    refine ⟨b', c, ty, rfl, h3, by rw [h4, rnL_len], fun j x hx => ?_⟩
    exact unrn hτ2 (refsPL_at q2 j x hx) (h5 j _ (by rw [rnL_get, hx]; rfl))
   | row e esz n f =>
    rcases g2 with ⟨f0, rfl, hf⟩ | ⟨f0, rfl, hf⟩
    ·obtain ⟨xs, p1, p2, p3⟩ := u2
     exact ⟨xs, p1, fun i hi => by rw [← hf i hi]; exact p2 i hi, fun i j x hi hx => p3 i j x hi (by rw [hf i hi]; exact hx)⟩
    ·obtain ⟨xs, p1, p2, p3⟩ := u2
     exact ⟨xs, p1, fun i hi => by rw [← (hf i hi).1]; exact p2 i hi, fun i j x hi hx => (p3 i j x hi (by rw [(hf i hi).1]; exact hx)).pure (pureL_at (hf i hi).2 j x hx)⟩
   | rows e esz n f =>
    rcases g2 with ⟨f0, rfl, hf⟩ | ⟨f0, rfl, hf⟩
    ·obtain ⟨xs, p1, p2, p3⟩ := u2
     refine ⟨xs, p1, fun i hi => by rw [← rnL_len ρ, ← hf i hi]; exact p2 i hi, fun i j x hi hx => ?_⟩
     exact unrn hτ2 (refsPL_at (q2 i hi) j x hx) (p3 i j _ hi (by rw [hf i hi, rnL_get, hx]; rfl))
    ·obtain ⟨xs, p1, p2, p3⟩ := u2
     refine ⟨xs, p1, fun i hi => by rw [← rnL_len ρ, ← hf i hi]; exact p2 i hi, fun i j x hi hx => ?_⟩
     have := p3 i j (x.rn ρ) hi (by rw [hf i hi, rnL_get, hx]; rfl)
     exact unrn hτ2 (refsPL_at (q2 i hi) j x hx) (this.mono (fun _ h => h) (fun _ _ => rfl) (fun _ _ h => by cases h))
   | fam D f => exact g2.elim
 ·obtain ⟨d, hh⟩ := hτ nm v hv
  have e := hold nm d ho
  rcases hh with ⟨b, h1, h2⟩ | rfl
  ·rw [e] at h1; injection h1 with h1; subst h1; exact h.wr.old nm v ho h2
  ·have := hτ2 nm d
   unfold viaT at this
   rw [e, hv] at this
   exact h.wr.old nm _ ho this.symm
 ·obtain ⟨h1, h2⟩ := viaE_at hE t x ht
  exact ⟨(h.env t _ h1).1, unrn hτ2 h2 (h.env t _ h1).2⟩
theorem RelA.trunc {cx τ F s a w} (h : RelA cx τ F s a w) {t id k e esz n : Nat} {row : Nat → List AV} (ht : look s.env t = some (.sl ⟨id, []⟩ k)) (hl : look s.heap id = some (.row e esz n row)) (hf : look (s.drop id).heap t = none) :
  Rel cx ((s.drop id).new t (.sl ⟨t, []⟩ k) (.row e esz k row)) a w := by
 obtain ⟨htn, hrv⟩ := h.env t _ ht
 generalize hav : a.tmps.getD t undef = av at hrv
 cases hrv with
 | sl _ _ _ A m c hτ hkm hmc hA =>
  obtain ⟨v, r1, xs, hown, r3, r4⟩ := h.wr.obj ⟨id, []⟩ _ (Has.of_look hl rfl)
  rw [hτ] at r1; injection r1 with r1; subst r1
  have hmn := own_form hown
  subst hmn
  have hlen : k * esz ≤ m * esz := Nat.mul_le_mul_right _ hkm
  have hd := h.drop id
  have hwo : ∀ i u, without τ id i = some u → i ≠ ⟨id, []⟩ ∧ τ i = some u := fun i u hu => by
   unfold without at hu
   split at hu
   ·cases hu
   ·rename_i e; exact ⟨fun e2 => e (by rw [e2]), hu⟩
  have hown2 : w.ownsRow 0 e esz (.slice A k c) k (xs.take (k * esz)) := by
   refine ⟨by rw [List.length_take, hown.1]; omega, ?_⟩
   rcases hown.2 with ⟨h', h0⟩ | ⟨g, cap, cur, hv, hg0, hg, hnc, hcm, hcs, htk⟩
   ·simp only [Value.slice.injEq] at h'
    obtain ⟨rfl, _, rfl⟩ := h'
    have : k = 0 := by omega
    subst this; exact .inl ⟨rfl, rfl⟩
   ·simp only [Value.slice.injEq] at hv
    obtain ⟨rfl, _, rfl⟩ := hv
    exact .inr ⟨g, c, cur, rfl, hg0, hg, by omega, hcm, hcs, by rw [← htk, List.take_take, Nat.min_eq_left hlen]⟩
  have hput : a.put (some t) (.slice A k c) = a := by
   unfold Act.put
   have hsz : t < a.tmps.size := by rw [h.size]; exact htn
   have : a.tmps.setIfInBounds t (.slice A k c) = a.tmps := by
    apply Array.ext
    ·simp
    ·intro j h1 h2
     rw [Array.getElem_setIfInBounds]
     ·split
      ·rename_i e; subst e
       rw [← hav]; simp [h2]
      ·rfl
   cases a; simp_all
  have := hd.add (d := t) htn hf (o := .row e esz k row) rfl (x := .sl ⟨t, []⟩ k) (v := .slice A k c) (u := .slice A k c) (fun b hb => ?_) fun τ' hτ' hτd => ⟨⟨xs.take (k * esz), hown2, fun i hi => r3 i (by omega), fun i j x hi hx => ?_⟩, own_sl hown2 hτd⟩
  ·rw [hput] at this; exact this
  ·have hb' : hblk (.slice A m c) = some b := by cases A with | none => cases hb | some q => exact hb
   refine ⟨h.wr.tlt ⟨id, []⟩ _ b hτ hb', fun hFk => h.wr.fne b ⟨id, []⟩ _ hFk hτ hb', fun i u hu e => (hwo i u hu).1 (h.wr.inj i ⟨id, []⟩ u _ b (hwo i u hu).2 hτ e hb')⟩
  ·have hj : j < esz := by have h1 : j < (row i).length := (List.getElem?_eq_some_iff.1 hx).1; rw [r3 i (by omega)] at h1; exact h1
   have : (i + 1) * esz ≤ k * esz := Nat.mul_le_mul_right _ hi
   rw [Nat.add_mul, Nat.one_mul] at this
   rw [List.getD_eq_getElem?_getD, List.getElem?_take, if_pos (by omega), ← List.getD_eq_getElem?_getD]
   exact r4 i j x (by omega) hx
section
variable {B : Tabs} {n : Nat} {s : St} {Q : Exit → St → Prop} {c : Code}
theorem AWp.via (ρ : Nm → Option Nm) (s' : St) (hv : Via ρ s' s) (h : AWp B n c s' Q) : AWp B n c s Q :=
 fun cx hP hn a w ⟨_, _, hr⟩ => h cx hP hn a w (hr.via hv)
theorem AWp.trunc (t id : Nat) {k e esz m : Nat} {row : Nat → List AV} (ht : look s.env t = some (.sl ⟨id, []⟩ k)) (hl : look s.heap id = some (.row e esz m row)) (hf : look (s.drop id).heap t = none) (h : AWp B n c ((s.drop id).new t (.sl ⟨t, []⟩ k) (.row e esz k row)) Q) : AWp B n c s Q :=
 fun cx hP hn a w ⟨_, _, hr⟩ => h cx hP hn a w (hr.trunc ht hl hf)
theorem AWp.reread (t : Nat) {x : AV} (x' : AV) (hl : look s.env t = some x) (hx : ∀ F τ w v, Rep F w τ x v → Rep F w τ x' v) (h : AWp B n c { s with env := (t, x') :: s.env } Q) : AWp B n c s Q := by
 intro cx hP hn a w ⟨τ, F, hr⟩
 refine h cx hP hn a w ⟨τ, F, ⟨⟨hr.wr.keeps, hr.wr.fz, hr.wr.fne, hr.wr.fsub, hr.wr.fsup, hr.wr.tlt, hr.wr.inj, hr.wr.obj, hr.wr.dom, hr.wr.old, hr.wr.cxn⟩, hr.size, hr.defers, fun u y hy => ?_⟩⟩
 rw [look_cons] at hy
 split at hy
 ·rename_i e
  injection hy with hy; subst hy; subst e
  exact ⟨(hr.env _ _ hl).1, hx F τ w _ (hr.env _ _ hl).2⟩
 ·exact hr.env u y hy
end
theorem AWp.reval {B : Tabs} {n : Nat} {s : St} {Q : Exit → St → Prop} {c : Code} (t : Nat) {nm : Nm} (hl : look s.env t = some (.sl nm 0)) (h : ∀ (A : Option Addr) (k : Nat), AWp B n c { s with env := (t, .val (.slice A 0 k)) :: s.env } Q) : AWp B n c s Q := by
 intro cx hP hn a w ⟨τ, F, hr⟩
 have h0 := (hr.env _ _ hl).2
 generalize hv : a.tmps.getD t undef = v at h0
 cases h0 with
 | sl _ _ _ A m k p1 p2 p3 p4 =>
  refine h A k cx hP hn a w ⟨τ, F, ⟨⟨hr.wr.keeps, hr.wr.fz, hr.wr.fne, hr.wr.fsub, hr.wr.fsup, hr.wr.tlt, hr.wr.inj, hr.wr.obj, hr.wr.dom, hr.wr.old, hr.wr.cxn⟩, hr.size, hr.defers, fun u y hy => ?_⟩⟩
  rw [look_cons] at hy
  split at hy
  ·rename_i e
   injection hy with hy; subst hy; subst e
   exact ⟨(hr.env _ _ hl).1, by rw [hv]; exact .val _ _⟩
  ·exact hr.env u y hy
end Go.Abs
namespace Go.Abs
open Go Go.RowKit
set_option linter.unusedVariables false
def enum : Nat → List AV → List (Nat × AV)
 | _, [] => []
 | k, x :: r => (k, x) :: enum (k + 1) r
theorem look_enum : ∀ (xs : List AV) (k t : Nat) (x : AV), look (enum k xs) t = some x → k ≤ t ∧ xs[t - k]? = some x
 | [], k, t, x, h => by cases h
 | y :: r, k, t, x, h => by
  simp only [enum] at h
  rw [look_cons] at h
  split at h
  ·rename_i e; subst e; injection h with h; subst h; exact ⟨Nat.le_refl _, by simp⟩
  ·rename_i e
   obtain ⟨h1, h2⟩ := look_enum r (k + 1) t x h
   refine ⟨by omega, ?_⟩
   rw [show t - k = (t - (k + 1)) + 1 by omega, List.getElem?_cons_succ]
   exact h2
def res1 (T : List (Nat × TI)) (s : St) (rv : ResultVar) (K : AV → Prop) : Prop :=
 match rv with
 | .tmp t => (match look s.env t with | some x => uncond true x K | none => False)
 | .cell t ty => (match look s.env t with | some x => loadv T true s ty x K | none => False)
def resAll (T : List (Nat × TI)) (s : St) : List ResultVar → (List AV → Prop) → Prop
 | [], K => K []
 | rv :: r, K => res1 T s rv fun x => resAll T s r fun xs => K (x :: xs)
def tupOf (xs : List AV) : AV := match xs with | [x] => x | xs => .tup xs
def Ends (B : Tabs) (rvs : List ResultVar) (r : AV) : Exit → St → Prop := fun e s => (e = .ret ∨ e = .normal) ∧ AV.pureB r = true ∧ resAll B.T s rvs fun xs => Unit → tupOf xs = r
def resF (tmps : Array Value) : ResultVar → Sem Value
 | .tmp t => pure (tmps.getD t undef)
 | .cell a t => do loadVar t (← asAddr (tmps.getD a undef))
theorem loadv_addr {T : List (Nat × TI)} {g : Bool} {s : St} {t : Nat} {x : AV} {K : AV → Prop} (h : loadv T g s t x K) (hg : g = true) : ∀ cx τ F w u, RelW cx τ F s w → Rep F w τ x u → ∃ a, u = .pointer (some a) := by
 intro cx τ F w u hw hr
 obtain ⟨cs, _, hk⟩ := cellsAt_sound h
 obtain ⟨b, o, e, _⟩ := hk cx τ F w u hg hw hr
 exact ⟨_, e⟩
theorem res1_sound {B : Tabs} {s : St} {rv : ResultVar} {K : AV → Prop} (h : res1 B.T s rv K) : ∃ x, K x ∧ ∀ cx τ F a w, RelA cx τ F s a w → ∃ v, Rep F w τ x v ∧ (resF a.tmps rv).run B.P w = .ok v w := by
 cases rv with
 | tmp t =>
  simp only [res1] at h
  cases hl : look s.env t with
  | none => rw [hl] at h; exact h.elim
  | some x =>
   rw [hl] at h
   obtain ⟨y, hy, hs⟩ := uncond_sound h
   exact ⟨y, hy, fun cx τ F a w hr => ⟨_, hs F τ w _ rfl (hr.env t x hl).2, rfl⟩⟩
 | cell t ty =>
  simp only [res1] at h
  cases hl : look s.env t with
  | none => rw [hl] at h; exact h.elim
  | some x =>
   rw [hl] at h
   have h' : loadv B.T true s ty x K := h
   obtain ⟨y, hy, hs⟩ := loadv_sound B.hT h'
   refine ⟨y, hy, fun cx τ F a w hr => ?_⟩
   obtain ⟨v, h1, h2⟩ := hs cx τ F w _ rfl hr.wr (hr.env t x hl).2
   refine ⟨v, h1, ?_⟩
   have h3 := h2 w (Same.refl _ _ _)
   obtain ⟨ad, e⟩ := loadv_addr h' rfl cx τ F w _ hr.wr (hr.env t x hl).2
   show (do loadVar ty (← asAddr (a.tmps.getD t undef)) : Sem Value).run B.P w = .ok v w
   rw [e] at h3 ⊢
   simpa [Instr.loadAt, Instr.sureAddr, asAddr] using h3
theorem resAll_sound {B : Tabs} {s : St} : ∀ (rvs : List ResultVar) {K : List AV → Prop}, resAll B.T s rvs K → ∃ xs, K xs ∧ xs.length = rvs.length ∧ ∀ cx τ F a w, RelA cx τ F s a w → ∃ vs : List Value, vs.length = xs.length ∧ (∀ (j : Nat) (x : AV), xs[j]? = some x → Rep F w τ x (vs.getD j undef)) ∧
  (rvs.mapM (resF a.tmps)).run B.P w = .ok vs w
 | [], K, h => ⟨[], h, rfl, fun cx τ F a w hr => ⟨[], rfl, fun j x hx => by simp at hx, rfl⟩⟩
 | rv :: r, K, h => by
  obtain ⟨x, h, hx⟩ := res1_sound h
  obtain ⟨xs, hK, hl, hs⟩ := resAll_sound r h
  refine ⟨x :: xs, hK, by simp [hl], fun cx τ F a w hr => ?_⟩
  obtain ⟨v, h1, h2⟩ := hx cx τ F a w hr
  obtain ⟨vs, h3, h4, h5⟩ := hs cx τ F a w hr
  refine ⟨v :: vs, by simp [h3], fun j y hy => ?_, ?_⟩
  ·cases j with
   | zero => simp at hy; subst hy; exact h1
   | succ j => simpa using h4 j y (by simpa using hy)
  ·rw [List.mapM_cons]
   simp only [Sem.run_bind]
   rw [h2]
   simp only [Result.andThen_ok]
   rw [h5]
   rfl
def Real (x : AV) : Prop := ∃ F w τ v, Rep F w τ x v
theorem Real.len {sz n : Nat} {row : Nat → List AV} (h : Real (.ro sz n row)) : n ≤ maxLen := by
 obtain ⟨F, w, τ, v, h⟩ := h
 cases h with
 | ro _ _ _ _ A c f h1 h2 => exact Nat.le_trans h1 h2
theorem Real.row {sz n : Nat} {row : Nat → List AV} (h : Real (.ro sz n row)) {i j : Nat} {x : AV} (hi : i < n) (hx : (row i)[j]? = some x) : Real x := by
 obtain ⟨F, w, τ, v, h⟩ := h
 cases h with
 | ro _ _ _ _ A c f h1 h2 h3 h4 h5 => exact ⟨F, w, _, _, h5 i j x hi hx⟩
theorem Real.agg {cs : List AV} (h : Real (.agg cs)) {j : Nat} {x : AV} (hx : cs[j]? = some x) : Real x := by
 obtain ⟨F, w, τ, v, h⟩ := h
 cases h with
 | agg _ _ vs h1 h2 => exact ⟨F, w, _, _, h2 j x hx⟩
def Reals : List AV → Prop
 | [] => True
 | x :: r => Real x ∧ Reals r
theorem reals_of {F : Nat → Prop} {w : World} {τ : Nm → Option Value} : ∀ (avs : List AV) (vs : List Value), (∀ (j : Nat) (x : AV), avs[j]? = some x → Rep F w τ x (vs.getD j undef)) → Reals avs
 | [], _, _ => trivial
 | x :: r, vs, h => ⟨⟨F, w, τ, _, h 0 x rfl⟩, reals_of r (vs.drop 1) fun j y hy => by
   have := h (j + 1) y (by simpa using hy)
   simpa [List.getD_eq_getElem?_getD, List.getElem?_drop, Nat.add_comm] using this⟩
theorem ACallIs.of_body (B : Tabs) {f : FuncId} {fn : Func} {c : Code} {avs : List AV} {r : AV} (hf : B.P.funcs[f]? = some fn) (hb : fn.body = some c) (hnm : (fn.name != "runtime.NumGoroutine") = true) (hl : avs.length ≤ fn.ntmps) (hcn : fn.ntmps ≤ 1000)
  (h : Reals avs → AWp B fn.ntmps c ⟨enum 0 avs, []⟩ (Ends B fn.results.toList r)) : ACallIs B.P f avs r := by
 refine ⟨by unfold fnB; rw [hf]; simp only [hnm, hb]; rfl, fun F w vs hF hlen hrep => ?_⟩
 let cx : Cx := ⟨B.P, fn.ntmps, F, fun _ => False, w, fun _ => none, []⟩
 refine calls_of_wp hf hb ?_
 have hvs : vs.toArray.size = avs.length := by simpa using hlen
 have hrel : Rel cx ⟨enum 0 avs, []⟩ { tmps := vs.toArray ++ Array.replicate (fn.ntmps - vs.toArray.size) undef, defers := [] } w := by
  refine ⟨fun _ => none, F, ⟨Keeps.refl _ _, hF, (fun _ _ _ _ h => by cases h), (fun k hk => .inl hk), (fun k hk => hk), (fun _ _ _ h => by cases h), (fun _ _ _ _ _ h => by cases h), (fun id o hl => by obtain ⟨x, hx, _⟩ := hl; cases hx), (fun id v hv => by cases hv), (fun _ _ _ h => by cases h), hcn⟩, by simp [cx, hvs]; omega, rfl, fun t x ht => ?_⟩
  obtain ⟨_, h2⟩ := look_enum avs 0 t x ht
  simp only [Nat.sub_zero] at h2
  have hlt : t < avs.length := (List.getElem?_eq_some_iff.1 h2).1
  refine ⟨by show t < fn.ntmps; omega, ?_⟩
  have e : (vs.toArray ++ Array.replicate (fn.ntmps - vs.toArray.size) undef).getD t undef = vs.getD t undef := by
   simp only [Array.getD_eq_getD_getElem?]
   rw [Array.getElem?_append_left (by omega)]
   simp
  rw [e]; exact hrep t x h2
 refine wp_mono ((h (reals_of avs vs hrep)).out cx rfl rfl _ w hrel) fun e a' w' ⟨s', ⟨he, hp, hres⟩, hr'⟩ => ?_
 obtain ⟨τ, F', hr'⟩ := hr'
 obtain ⟨xs, hxs, hxl, hs⟩ := resAll_sound _ hres
 obtain ⟨us, h1, h2, h3⟩ := hs cx τ F' a' w' hr'
 have hbel : Below w.heap.size w w' := hr'.wr.keeps.below (fun _ h => h)
 have hrun : ∃ v, (results fn a'.tmps).run B.P w' = .ok v w' ∧ Rep F' w' τ r v := by
  refine ⟨if h : us.toArray.size = 1 then us.toArray[0] else .tuple us.toArray, ?_, ?_⟩
  ·have hres : results fn a'.tmps = (do let vs ← fn.results.mapM (resF a'.tmps); pure (if h : vs.size = 1 then vs[0] else .tuple vs)) := by
    unfold results; congr 1
   rw [hres, Array.mapM_eq_mapM_toList]
   simp only [Sem.run_bind, Sem.run_map]
   rw [h3]
   rfl
  ·have hxs := hxs ()
   subst hxs
   have tupc : xs.length ≠ 1 → Rep F' w' τ (.tup xs) (if h : us.toArray.size = 1 then us.toArray[0] else .tuple us.toArray) := by
    intro hne
    have hu : us.toArray.size ≠ 1 := by simpa [h1] using hne
    rw [dif_neg hu]
    exact .tup _ _ _ (by simp [h1]) fun j c hc => by simpa using h2 j c hc
   match xs, h1, h2, tupc with
   | [], _, _, tupc => exact tupc (by simp)
   | x :: y :: r, _, _, tupc => exact tupc (by simp)
   | [x], h1, h2, _ =>
    match us, h1, h2 with
    | [u], _, h2 => have h4 := h2 0 x rfl; simp at h4; exact h4
 obtain ⟨v, hv1, hv2⟩ := hrun
 have hsub : ∀ k, F' k → F k ∨ w.heap.size ≤ k := fun k hk => (hr'.wr.fsub k hk).imp id (fun h => h.resolve_right (fun h => h))
 have hfin : ∃ v F'', Ending.returned v = Ending.returned v ∧ Below w.heap.size w w' ∧ (∀ k, F k → F'' k) ∧ (∀ k, F'' k → F k ∨ w.heap.size ≤ k) ∧ (∀ k, F'' k → k < w'.heap.size) ∧ Rep F'' w' (fun _ => none) r v :=
  ⟨v, F', rfl, hbel, hr'.wr.fsup, hsub, hr'.wr.fz, hv2.pure hp⟩
 have hpost : a'.defers = [] ∧ ∃ v', (results fn a'.tmps).run B.P w' = .ok v' w' ∧ ∃ v F'', Ending.returned v' = Ending.returned v ∧ Below w.heap.size w w' ∧ (∀ k, F k → F'' k) ∧ (∀ k, F'' k → F k ∨ w.heap.size ≤ k) ∧ (∀ k, F'' k → k < w'.heap.size) ∧ Rep F'' w' (fun _ => none) r v :=
  ⟨hr'.defers, v, hv1, v, F', rfl, hbel, hr'.wr.fsup, hsub, hr'.wr.fz, hv2.pure hp⟩
 rcases he with rfl | rfl
 ·exact hpost
 ·exact hpost
end Go.Abs
namespace Go.Abs
open Go Go.RowKit
theorem ACallIs.out {P : Program} {f : FuncId} {avs : List AV} {r : AV} (h : ACallIs P f avs r) (F : Nat → Prop) (w : World) (vs : List Value) (hF : ∀ k, F k → k < w.heap.size) (hl : vs.length = avs.length) (hr : ∀ (j : Nat) (x : AV), avs[j]? = some x → Rep F w (fun _ => none) x (vs.getD j undef)) :
  Calls P f vs.toArray w fun e w' => ∃ v F', e = .returned v ∧ Below w.heap.size w w' ∧ (∀ k, F k → F' k) ∧ (∀ k, F' k → F k ∨ w.heap.size ≤ k) ∧ (∀ k, F' k → k < w'.heap.size) ∧ Rep F' w' (fun _ => none) r v := h.2 F w vs hF hl hr
theorem ACallIs.enter (B : Tabs) {f : FuncId} {fn : Func} {c : Code} {avs : List AV} {r : AV} (n : Nat) (rvs : List ResultVar) (hf : B.P.funcs[f]? = some fn) (hb : fn.body = some c) (hnm : (fn.name != "runtime.NumGoroutine") = true) (hn : fn.ntmps = n) (hrv : fn.results = rvs.toArray) (hl : (Nat.ble avs.length n && Nat.ble n 1000) = true)
  (h : Reals avs → AWp B n c ⟨enum 0 avs, []⟩ (Ends B rvs r)) : ACallIs B.P f avs r := by
 subst hn
 rw [Bool.and_eq_true] at hl
 refine ACallIs.of_body B hf hb hnm (Nat.le_of_ble_eq_true hl.1) (Nat.le_of_ble_eq_true hl.2) fun hr => ?_
 rw [hrv]
 exact h hr
def EndsM (B : Tabs) (rvs : List ResultVar) (r : AV) (post : List (Nat × HO)) : Exit → St → Prop := fun e s => (e = .ret ∨ e = .normal) ∧ resAll B.T s rvs fun xs => Unit → tupOf xs = r ∧ AV.refsP (domP post) r ∧ subHeap (domP post) s.heap post
theorem ACallM.enter (B : Tabs) {f : FuncId} {fn : Func} {c : Code} {sp : MSpec} (n : Nat) (rvs : List ResultVar) (hf : B.P.funcs[f]? = some fn) (hb : fn.body = some c) (hnm : (fn.name != "runtime.NumGoroutine") = true) (hn : fn.ntmps = n) (hrv : fn.results = rvs.toArray) (hl : (Nat.ble sp.args.length n && Nat.ble n 1000) = true)
  (hcl : sp.closed) (h : Reals sp.args → AWp B n c ⟨enum 0 sp.args, sp.pre⟩ (EndsM B rvs sp.res sp.post)) : ACallM B.P f sp := by
 subst hn
 rw [Bool.and_eq_true] at hl
 have hl1 := Nat.le_of_ble_eq_true hl.1
 refine ⟨by unfold fnB; rw [hf]; simp only [hnm, hb]; rfl, hcl, fun F τ w vs hR hlen hrep => ?_⟩
 let cx : Cx := cxM B.P fn.ntmps F τ w
 refine calls_of_wp hf hb ?_
 have hvs : vs.toArray.size = sp.args.length := by simpa using hlen
 have hrel : Rel cx ⟨enum 0 sp.args, sp.pre⟩ { tmps := vs.toArray ++ Array.replicate (fn.ntmps - vs.toArray.size) undef, defers := [] } w := by
  refine ⟨τ, F, ⟨hR.keeps, hR.fz, hR.fne, hR.fsub, hR.fsup, hR.tlt, hR.inj, hR.obj, hR.dom, hR.old, Nat.le_of_ble_eq_true hl.2⟩, by simp [cx, cxM, hvs]; omega, rfl, fun t x ht => ?_⟩
  obtain ⟨_, h2⟩ := look_enum sp.args 0 t x ht
  simp only [Nat.sub_zero] at h2
  have hlt : t < sp.args.length := (List.getElem?_eq_some_iff.1 h2).1
  refine ⟨by show t < fn.ntmps; omega, ?_⟩
  have e : (vs.toArray ++ Array.replicate (fn.ntmps - vs.toArray.size) undef).getD t undef = vs.getD t undef := by
   simp only [Array.getD_eq_getD_getElem?]
   rw [Array.getElem?_append_left (by omega)]
   simp
  rw [e]; exact hrep t x h2
 refine wp_mono ((h (reals_of sp.args vs hrep)).out cx rfl rfl _ w hrel) fun e a' w' ⟨s', ⟨he, hres⟩, hr'⟩ => ?_
 obtain ⟨τ', F', hr'⟩ := hr'
 have hrv' : rvs = fn.results.toList := by rw [hrv]
 subst hrv'
 obtain ⟨xs, hxs, hxl, hs⟩ := resAll_sound _ hres
 obtain ⟨us, h1, h2, h3⟩ := hs cx τ' F' a' w' hr'
 obtain ⟨hxs, hrefs, hsub⟩ := hxs ()
 have hrun : ∃ v, (results fn a'.tmps).run B.P w' = .ok v w' ∧ Rep F' w' τ' sp.res v := by
  refine ⟨if h : us.toArray.size = 1 then us.toArray[0] else .tuple us.toArray, ?_, ?_⟩
  ·have hres : results fn a'.tmps = (do let vs ← fn.results.mapM (resF a'.tmps); pure (if h : vs.size = 1 then vs[0] else .tuple vs)) := by
    unfold results; congr 1
   rw [hres, Array.mapM_eq_mapM_toList]
   simp only [Sem.run_bind, Sem.run_map]
   rw [h3]
   rfl
  ·rw [← hxs]
   have tupc : xs.length ≠ 1 → Rep F' w' τ' (.tup xs) (if h : us.toArray.size = 1 then us.toArray[0] else .tuple us.toArray) := by
    intro hne
    have hu : us.toArray.size ≠ 1 := by simpa [h1] using hne
    rw [dif_neg hu]
    exact .tup _ _ _ (by simp [h1]) fun j c hc => by simpa using h2 j c hc
   match xs, h1, h2, tupc with
   | [], _, _, tupc => exact tupc (by simp)
   | x :: y :: r, _, _, tupc => exact tupc (by simp)
   | [x], h1, h2, _ =>
    match us, h1, h2 with
    | [u], _, h2 => have h4 := h2 0 x rfl; simp at h4; exact h4
 obtain ⟨v, hv1, hv2⟩ := hrun
 -- what is left of what is known: the heap that is handed back, and the result
 have hsub' : Sub ⟨[], sp.post⟩ s' := ⟨trivial, hsub⟩
 let τ2 : Nm → Option Value := fun nm => open Classical in if domP sp.post nm then τ' nm else none
 have hτ2 : ∀ nm, domP sp.post nm → τ2 nm = τ' nm := fun nm h => if_pos h
 obtain ⟨hq1, hq2⟩ : RelW cx τ2 F' ⟨[], sp.post⟩ w' ∧ True := ⟨RelA.subW hr'.wr hsub', trivial⟩
 have hv3 : Rep F' w' τ2 sp.res v := hv2.refs hτ2 hrefs
 have hR' : RelW (cxM B.P 0 F τ w) τ2 F' ⟨[], sp.post⟩ w' := ⟨hq1.keeps, hq1.fz, hq1.fne, hq1.fsub, hq1.fsup, hq1.tlt, hq1.inj, hq1.obj, hq1.dom, hq1.old, Nat.zero_le _⟩
 have hpost : a'.defers = [] ∧ ∃ v', (results fn a'.tmps).run B.P w' = .ok v' w' ∧ ∃ v F' τ', Ending.returned v' = Ending.returned v ∧ RelW (cxM B.P 0 F τ w) τ' F' ⟨[], sp.post⟩ w' ∧ Rep F' w' τ' sp.res v :=
  ⟨hr'.defers, v, hv1, v, F', τ2, rfl, hR', hv3⟩
 rcases he with rfl | rfl
 ·exact hpost
 ·exact hpost
def EndsP (B : Tabs) (rvs : List ResultVar) (R : AV → Prop) : Exit → St → Prop := fun e s => (e = .ret ∨ e = .normal) ∧ resAll B.T s rvs fun xs => Unit → R (tupOf xs) ∧ AV.pureB (tupOf xs) = true
theorem ACallP.of_body (B : Tabs) {f : FuncId} {fn : Func} {c : Code} {avs : List AV} {R : AV → Prop} (hf : B.P.funcs[f]? = some fn) (hb : fn.body = some c) (hnm : (fn.name != "runtime.NumGoroutine") = true) (hl : avs.length ≤ fn.ntmps) (hcn : fn.ntmps ≤ 1000)
  (h : Reals avs → AWp B fn.ntmps c ⟨enum 0 avs, []⟩ (EndsP B fn.results.toList R)) : ACallP B.P f avs R := by
 refine ⟨by unfold fnB; rw [hf]; simp only [hnm, hb]; rfl, fun F w vs hF hlen hrep => ?_⟩
 let cx : Cx := ⟨B.P, fn.ntmps, F, fun _ => False, w, fun _ => none, []⟩
 refine calls_of_wp hf hb ?_
 have hvs : vs.toArray.size = avs.length := by simpa using hlen
 have hrel : Rel cx ⟨enum 0 avs, []⟩ { tmps := vs.toArray ++ Array.replicate (fn.ntmps - vs.toArray.size) undef, defers := [] } w := by
  refine ⟨fun _ => none, F, ⟨Keeps.refl _ _, hF, (fun _ _ _ _ h => by cases h), (fun k hk => .inl hk), (fun k hk => hk), (fun _ _ _ h => by cases h), (fun _ _ _ _ _ h => by cases h), (fun id o hl => by obtain ⟨x, hx, _⟩ := hl; cases hx), (fun id v hv => by cases hv), (fun _ _ _ h => by cases h), hcn⟩, by simp [cx, hvs]; omega, rfl, fun t x ht => ?_⟩
  obtain ⟨_, h2⟩ := look_enum avs 0 t x ht
  simp only [Nat.sub_zero] at h2
  have hlt : t < avs.length := (List.getElem?_eq_some_iff.1 h2).1
  refine ⟨by show t < fn.ntmps; omega, ?_⟩
  have e : (vs.toArray ++ Array.replicate (fn.ntmps - vs.toArray.size) undef).getD t undef = vs.getD t undef := by
   simp only [Array.getD_eq_getD_getElem?]
   rw [Array.getElem?_append_left (by omega)]
   simp
  rw [e]; exact hrep t x h2
 refine wp_mono ((h (reals_of avs vs hrep)).out cx rfl rfl _ w hrel) fun e a' w' ⟨s', ⟨he, hres⟩, hr'⟩ => ?_
 obtain ⟨τ, F', hr'⟩ := hr'
 obtain ⟨xs, hxs, hxl, hs⟩ := resAll_sound _ hres
 obtain ⟨us, h1, h2, h3⟩ := hs cx τ F' a' w' hr'
 have hbel : Below w.heap.size w w' := hr'.wr.keeps.below (fun _ h => h)
 obtain ⟨hRx, hp⟩ := hxs ()
 have hrun : ∃ v, (results fn a'.tmps).run B.P w' = .ok v w' ∧ Rep F' w' τ (tupOf xs) v := by
  refine ⟨if h : us.toArray.size = 1 then us.toArray[0] else .tuple us.toArray, ?_, ?_⟩
  ·have hres : results fn a'.tmps = (do let vs ← fn.results.mapM (resF a'.tmps); pure (if h : vs.size = 1 then vs[0] else .tuple vs)) := by
    unfold results; congr 1
   rw [hres, Array.mapM_eq_mapM_toList]
   simp only [Sem.run_bind, Sem.run_map]
   rw [h3]
   rfl
  ·clear hRx hp hxs
   have tupc : xs.length ≠ 1 → Rep F' w' τ (.tup xs) (if h : us.toArray.size = 1 then us.toArray[0] else .tuple us.toArray) := by
    intro hne
    have hu : us.toArray.size ≠ 1 := by simpa [h1] using hne
    rw [dif_neg hu]
    exact .tup _ _ _ (by simp [h1]) fun j c hc => by simpa using h2 j c hc
   match xs, h1, h2, tupc with
   | [], _, _, tupc => exact tupc (by simp)
   | x :: y :: r, _, _, tupc => exact tupc (by simp)
   | [x], h1, h2, _ =>
    match us, h1, h2 with
    | [u], _, h2 => have h4 := h2 0 x rfl; simp at h4; exact h4
 obtain ⟨v, hv1, hv2⟩ := hrun
 have hsub : ∀ k, F' k → F k ∨ w.heap.size ≤ k := fun k hk => (hr'.wr.fsub k hk).imp id (fun h => h.resolve_right (fun h => h))
 have hpost : a'.defers = [] ∧ ∃ v', (results fn a'.tmps).run B.P w' = .ok v' w' ∧ ∃ v F'' r, R r ∧ Ending.returned v' = Ending.returned v ∧ Below w.heap.size w w' ∧ (∀ k, F k → F'' k) ∧ (∀ k, F'' k → F k ∨ w.heap.size ≤ k) ∧ (∀ k, F'' k → k < w'.heap.size) ∧ Rep F'' w' (fun _ => none) r v :=
  ⟨hr'.defers, v, hv1, v, F', tupOf xs, hRx, rfl, hbel, hr'.wr.fsup, hsub, hr'.wr.fz, hv2.pure hp⟩
 rcases he with rfl | rfl
 ·exact hpost
 ·exact hpost
theorem ACallP.enter (B : Tabs) {f : FuncId} {fn : Func} {c : Code} {avs : List AV} {R : AV → Prop} (n : Nat) (rvs : List ResultVar) (hf : B.P.funcs[f]? = some fn) (hb : fn.body = some c) (hnm : (fn.name != "runtime.NumGoroutine") = true) (hn : fn.ntmps = n) (hrv : fn.results = rvs.toArray) (hl : (Nat.ble avs.length n && Nat.ble n 1000) = true)
  (h : Reals avs → AWp B n c ⟨enum 0 avs, []⟩ (EndsP B rvs R)) : ACallP B.P f avs R := by
 subst hn
 rw [Bool.and_eq_true] at hl
 refine ACallP.of_body B hf hb hnm (Nat.le_of_ble_eq_true hl.1) (Nat.le_of_ble_eq_true hl.2) fun hr => ?_
 rw [hrv]
 exact h hr
def EndsR (B : Tabs) (rvs : List ResultVar) (R : AV → List (Nat × HO) → Prop) : Exit → St → Prop := fun e s => (e = .ret ∨ e = .normal) ∧ resAll B.T s rvs fun xs => Unit → ∃ post, R (tupOf xs) post ∧ AV.refsP (domP post) (tupOf xs) ∧ subHeap (domP post) s.heap post
theorem ACallR.enter (B : Tabs) {f : FuncId} {fn : Func} {c : Code} {args : List AV} {pre : List (Nat × HO)} {R : AV → List (Nat × HO) → Prop} (n : Nat) (rvs : List ResultVar) (hf : B.P.funcs[f]? = some fn) (hb : fn.body = some c) (hnm : (fn.name != "runtime.NumGoroutine") = true) (hn : fn.ntmps = n) (hrv : fn.results = rvs.toArray) (hl : (Nat.ble args.length n && Nat.ble n 1000) = true)
  (hcl : heapRefs (domP pre) pre ∧ AV.refsPL (domP pre) args ∧ ∀ res post, R res post → keptDom post pre) (h : Reals args → AWp B n c ⟨enum 0 args, pre⟩ (EndsR B rvs R)) : ACallR B.P f args pre R := by
 subst hn
 rw [Bool.and_eq_true] at hl
 have hl1 := Nat.le_of_ble_eq_true hl.1
 refine ⟨by unfold fnB; rw [hf]; simp only [hnm, hb]; rfl, hcl, fun F τ w vs hR hlen hrep => ?_⟩
 let cx : Cx := cxM B.P fn.ntmps F τ w
 refine calls_of_wp hf hb ?_
 have hvs : vs.toArray.size = args.length := by simpa using hlen
 have hrel : Rel cx ⟨enum 0 args, pre⟩ { tmps := vs.toArray ++ Array.replicate (fn.ntmps - vs.toArray.size) undef, defers := [] } w := by
  refine ⟨τ, F, ⟨hR.keeps, hR.fz, hR.fne, hR.fsub, hR.fsup, hR.tlt, hR.inj, hR.obj, hR.dom, hR.old, Nat.le_of_ble_eq_true hl.2⟩, by simp [cx, cxM, hvs]; omega, rfl, fun t x ht => ?_⟩
  obtain ⟨_, h2⟩ := look_enum args 0 t x ht
  simp only [Nat.sub_zero] at h2
  have hlt : t < args.length := (List.getElem?_eq_some_iff.1 h2).1
  refine ⟨by show t < fn.ntmps; omega, ?_⟩
  have e : (vs.toArray ++ Array.replicate (fn.ntmps - vs.toArray.size) undef).getD t undef = vs.getD t undef := by
   simp only [Array.getD_eq_getD_getElem?]
   rw [Array.getElem?_append_left (by omega)]
   simp
  rw [e]; exact hrep t x h2
 refine wp_mono ((h (reals_of args vs hrep)).out cx rfl rfl _ w hrel) fun e a' w' ⟨s', ⟨he, hres⟩, hr'⟩ => ?_
 obtain ⟨τ', F', hr'⟩ := hr'
 have hrv' : rvs = fn.results.toList := by rw [hrv]
 subst hrv'
 obtain ⟨xs, hxs, hxl, hs⟩ := resAll_sound _ hres
 obtain ⟨us, h1, h2, h3⟩ := hs cx τ' F' a' w' hr'
 obtain ⟨post, hRx, hrefs, hsub⟩ := hxs ()
 have hrun : ∃ v, (results fn a'.tmps).run B.P w' = .ok v w' ∧ Rep F' w' τ' (tupOf xs) v := by
  refine ⟨if h : us.toArray.size = 1 then us.toArray[0] else .tuple us.toArray, ?_, ?_⟩
  ·have hres : results fn a'.tmps = (do let vs ← fn.results.mapM (resF a'.tmps); pure (if h : vs.size = 1 then vs[0] else .tuple vs)) := by
    unfold results; congr 1
   rw [hres, Array.mapM_eq_mapM_toList]
   simp only [Sem.run_bind, Sem.run_map]
   rw [h3]
   rfl
  ·have hxs := ()
   clear hRx hrefs hsub
   have tupc : xs.length ≠ 1 → Rep F' w' τ' (.tup xs) (if h : us.toArray.size = 1 then us.toArray[0] else .tuple us.toArray) := by
    intro hne
    have hu : us.toArray.size ≠ 1 := by simpa [h1] using hne
    rw [dif_neg hu]
    exact .tup _ _ _ (by simp [h1]) fun j c hc => by simpa using h2 j c hc
   match xs, h1, h2, tupc with
   | [], _, _, tupc => exact tupc (by simp)
   | x :: y :: r, _, _, tupc => exact tupc (by simp)
   | [x], h1, h2, _ =>
    match us, h1, h2 with
    | [u], _, h2 => have h4 := h2 0 x rfl; simp at h4; exact h4
 obtain ⟨v, hv1, hv2⟩ := hrun
 -- what is left of what is known: the heap that is handed back, and the result
 have hsub' : Sub ⟨[], post⟩ s' := ⟨trivial, hsub⟩
 let τ2 : Nm → Option Value := fun nm => open Classical in if domP post nm then τ' nm else none
 have hτ2 : ∀ nm, domP post nm → τ2 nm = τ' nm := fun nm h => if_pos h
 obtain ⟨hq1, hq2⟩ : RelW cx τ2 F' ⟨[], post⟩ w' ∧ True := ⟨RelA.subW hr'.wr hsub', trivial⟩
 have hv3 : Rep F' w' τ2 (tupOf xs) v := hv2.refs hτ2 hrefs
 have hR' : RelW (cxM B.P 0 F τ w) τ2 F' ⟨[], post⟩ w' := ⟨hq1.keeps, hq1.fz, hq1.fne, hq1.fsub, hq1.fsup, hq1.tlt, hq1.inj, hq1.obj, hq1.dom, hq1.old, Nat.zero_le _⟩
 have hpost : a'.defers = [] ∧ ∃ v', (results fn a'.tmps).run B.P w' = .ok v' w' ∧ ∃ v F' τ' res post, R res post ∧ Ending.returned v' = Ending.returned v ∧ RelW (cxM B.P 0 F τ w) τ' F' ⟨[], post⟩ w' ∧ Rep F' w' τ' res v :=
  ⟨hr'.defers, v, hv1, v, F', τ2, tupOf xs, post, hRx, rfl, hR', hv3⟩
 rcases he with rfl | rfl
 ·exact hpost
 ·exact hpost
abbrev zq := @AWp.seq
abbrev zb := @AWp.block
abbrev zk := @AWp.skip
abbrev zr := @AWp.region
abbrev ze := @AWp.exit
theorem nn {a b : Nat} (h : a < b) : 0 ≤ (a : Int) ∧ (a : Int) < b := ⟨Int.natCast_nonneg _, Int.ofNat_lt.2 h⟩
end Go.Abs
attribute [irreducible] Go.Abs.AWp Go.Abs.CallK Go.Abs.CallX Go.Abs.ACallIs Go.Abs.ACallM Go.Abs.ACallP Go.Abs.ACallR
