/- Outputs by their places: plain model, the runner, mach.Run, OutputRun. -/
import Derived.Test.YtnbgpgbbfjaomaaMch
import Derived.Test.YtnbgpgbbfjaomaaSrc
import Derived.Test.YtnbgpgbbfjaomaaQui
set_option linter.unusedVariables false
set_option linter.unusedSimpArgs false
/- Plain: what an output does by its places: cells, junk, moves, instructions, steps. Condition: none. -/
namespace Go.Proofs.Ytnbgpgbbfjaomaa
open Go Go.Abs Go.RowKit Go.Abs.Gra

/-- A place's cell. -/
def celF (p : Plc) : Nat := if p.Kind = 2 then 22 + p.N.toNat else 11 * p.Class.toNat + p.N.toNat
theorem celF_slot {p : Plc} (h : p.Kind = 2) : celF p = 22 + p.N.toNat := if_pos h
theorem celF_reg {p : Plc} (h : p.Kind = 1) : celF p = 11 * p.Class.toNat + p.N.toNat := if_neg (by omega)
def PlOk (fr : Nat) (p : Plc) : Prop := (p.Kind = 1 ∧ 0 ≤ p.Class ∧ p.Class < 2 ∧ 0 ≤ p.N ∧ p.N ≤ 10) ∨ (p.Kind = 2 ∧ p.Class = 0 ∧ 0 ≤ p.N ∧ p.N < fr)
theorem PlOk.lt {fr : Nat} {p : Plc} (h : PlOk fr p) : celF p < 22 + fr := by
  rcases h with h | h
  · rw [celF_reg h.1]; omega
  · rw [celF_slot h.1]; omega
theorem regF_le {m : Mch} (hm : machF m = 0) {c : Int} : 0 ≤ regF m c ∧ regF m c ≤ 10 := reg_range hm c.toNat
theorem PlOk.of_place {m : Mch} (hm : machF m = 0) {fr : Nat} {p : Plc} (h : placeF m fr p = true) : PlOk fr p := by
  have hr := regF_le hm (c := p.Class)
  unfold placeF at h
  split at h
  · rename_i h1
    have h := of_decide_eq_true h
    exact .inl ⟨h1, h.1, h.2.1, h.2.2.1, by omega⟩
  · split at h
    · rename_i h2
      have h := of_decide_eq_true h
      exact .inr ⟨h2, h⟩
    · cases h
theorem PlOk.of_end {m : Mch} (hm : machF m = 0) {fr : Nat} {p : Plc} (h : endF m fr p = true) : PlOk fr p := by
  have hr := regF_le hm (c := p.Class)
  unfold endF at h
  split at h
  · rename_i h1
    exact .inl ⟨h1.1, h1.2.1, h1.2.2.1, by omega, by omega⟩
  · exact PlOk.of_place hm h
/-- The n'th junk. -/
def wildF (J : List Int) (n : Nat) : Int := if J.length = 0 then 0 else J.getD (n % J.length) default
def nxF (J : List Int) (n : Nat) : Int := if J.length = 0 then 0 else (n : Int)
def setC (C : Nat → Int) (i : Nat) (v : Int) : Nat → Int := fun j => if j = i then v else C j
/-- Behind the first moves of an edit. -/
def mvF (e : Edt) (C : Nat → Int) : Nat → Nat → Int
  | 0 => C
  | k + 1 => setC (mvF e C k) (celF (e.Moves.getD k default).To) (mvF e C k (celF (e.Moves.getD k default).From))
/-- Behind the first edits, at a place of a block. -/
def edF (l : List Edt) (b a : Nat) (C : Nat → Int) : Nat → Nat → Int
  | 0 => C
  | i + 1 => if (l.getD i default).Block = b ∧ (l.getD i default).At = a then mvF (l.getD i default) (edF l b a C i) (l.getD i default).Moves.length else edF l b a C i
theorem edF_yes {l : List Edt} {b a : Nat} {C : Nat → Int} {i : Nat} (h : (l.getD i default).Block = b ∧ (l.getD i default).At = a) : edF l b a C (i + 1) = mvF (l.getD i default) (edF l b a C i) (l.getD i default).Moves.length := if_pos h
theorem edF_no {l : List Edt} {b a : Nat} {C : Nat → Int} {i : Nat} (h : ¬ ((l.getD i default).Block = b ∧ (l.getD i default).At = a)) : edF l b a C (i + 1) = edF l b a C i := if_neg h
/-- Cells and how much junk was taken. -/
structure Box where
  C : Nat → Int
  w : Nat
/-- Early results are spoilt first. -/
def dwF (J : List Int) (x : Ins) (p : List Plc) (s : Box) : Nat → Box
  | 0 => s
  | k + 1 => if (x.Operands.getD k default).Kind = 2 ∧ (x.Operands.getD k default).Late = false then ⟨setC (dwF J x p s k).C (celF (p.getD k default)) (wildF J (dwF J x p s k).w), (dwF J x p s k).w + 1⟩ else dwF J x p s k
theorem dwF_yes {J : List Int} {x : Ins} {p : List Plc} {s : Box} {k : Nat} (h : (x.Operands.getD k default).Kind = 2 ∧ (x.Operands.getD k default).Late = false) : dwF J x p s (k + 1) = ⟨setC (dwF J x p s k).C (celF (p.getD k default)) (wildF J (dwF J x p s k).w), (dwF J x p s k).w + 1⟩ := if_pos h
theorem dwF_no {J : List Int} {x : Ins} {p : List Plc} {s : Box} {k : Nat} (h : ¬ ((x.Operands.getD k default).Kind = 2 ∧ (x.Operands.getD k default).Late = false)) : dwF J x p s (k + 1) = dwF J x p s k := if_neg h
theorem dwF_w {J : List Int} {x : Ins} {p : List Plc} {s : Box} : ∀ k, (dwF J x p s k).w ≤ s.w + k
  | 0 => Nat.le_refl _
  | k + 1 => by
    have := dwF_w (J := J) (x := x) (p := p) (s := s) k
    by_cases h : (x.Operands.getD k default).Kind = 2 ∧ (x.Operands.getD k default).Late = false
    · rw [dwF_yes h]; show (dwF J x p s k).w + 1 ≤ _; omega
    · rw [dwF_no h]; omega
/-- What is spoilt. -/
def spF (J : List Int) (l : List Rg) (s : Box) : Nat → Box
  | 0 => s
  | k + 1 => ⟨setC (spF J l s k).C (11 * (l.getD k default).Class.toNat + (l.getD k default).N.toNat) (wildF J (spF J l s k).w), (spF J l s k).w + 1⟩
theorem spF_w {J : List Int} {l : List Rg} {s : Box} : ∀ k, (spF J l s k).w = s.w + k
  | 0 => rfl
  | k + 1 => by show (spF J l s k).w + 1 = _; rw [spF_w k]; omega
/-- What is read: early ones out of C0, late ones out of C2. -/
def rdM (C0 C2 : Nat → Int) (x : Ins) (p : List Plc) : Nat → List Int
  | 0 => []
  | k + 1 => if (x.Operands.getD k default).Kind = 1 then rdM C0 C2 x p k ++ [if (x.Operands.getD k default).Late = true then C2 (celF (p.getD k default)) else C0 (celF (p.getD k default))] else rdM C0 C2 x p k
theorem rdM_yes {C0 C2 : Nat → Int} {x : Ins} {p : List Plc} {k : Nat} (h : (x.Operands.getD k default).Kind = 1) : rdM C0 C2 x p (k + 1) = rdM C0 C2 x p k ++ [if (x.Operands.getD k default).Late = true then C2 (celF (p.getD k default)) else C0 (celF (p.getD k default))] := if_pos h
theorem rdM_no {C0 C2 : Nat → Int} {x : Ins} {p : List Plc} {k : Nat} (h : ¬ (x.Operands.getD k default).Kind = 1) : rdM C0 C2 x p (k + 1) = rdM C0 C2 x p k := if_neg h
theorem rdM_len {C0 C2 : Nat → Int} {x : Ins} {p : List Plc} : ∀ k, (rdM C0 C2 x p k).length ≤ k
  | 0 => Nat.le_refl _
  | k + 1 => by
    have := rdM_len (C0 := C0) (C2 := C2) (x := x) (p := p) k
    by_cases h : (x.Operands.getD k default).Kind = 1
    · rw [rdM_yes h]; simp; omega
    · rw [rdM_no h]; omega
/-- What is made. -/
def dmF (seed : Int) (x : Ins) (p : List Plc) (rd : List Int) (C : Nat → Int) : Nat → Nat → Int
  | 0 => C
  | k + 1 => if (x.Operands.getD k default).Kind = 2 then setC (dmF seed x p rd C k) (celF (p.getD k default)) (mixF (seed :: x.Op :: (k : Int) :: rd)) else dmF seed x p rd C k
theorem dmF_yes {seed : Int} {x : Ins} {p : List Plc} {rd : List Int} {C : Nat → Int} {k : Nat} (h : (x.Operands.getD k default).Kind = 2) : dmF seed x p rd C (k + 1) = setC (dmF seed x p rd C k) (celF (p.getD k default)) (mixF (seed :: x.Op :: (k : Int) :: rd)) := if_pos h
theorem dmF_no {seed : Int} {x : Ins} {p : List Plc} {rd : List Int} {C : Nat → Int} {k : Nat} (h : ¬ (x.Operands.getD k default).Kind = 2) : dmF seed x p rd C (k + 1) = dmF seed x p rd C k := if_neg h
section
variable (f : Fun) (o : Oup) (J : List Int) (seed : Int)
/-- Behind all edits at a place. -/
@[reducible] def edA (b a : Nat) (C : Nat → Int) : Nat → Int := edF o.Edits b a C o.Edits.length
/-- Behind what an instruction spoils. -/
@[reducible] def spA (b a : Nat) (s : Box) : Box := spF J (insAt f b a).Spoils (dwF J (insAt f b a) (plAt o b a) s (insAt f b a).Operands.length) (insAt f b a).Spoils.length
@[reducible] def rdA (b a : Nat) (s : Box) : List Int := rdM s.C (spA f o J b a s).C (insAt f b a) (plAt o b a) (insAt f b a).Operands.length
@[reducible] def inA (b a : Nat) (s : Box) : Box := ⟨dmF seed (insAt f b a) (plAt o b a) (rdA f o J b a s) (spA f o J b a s).C (insAt f b a).Operands.length, (spA f o J b a s).w⟩
@[reducible] def evA (b a : Nat) (s : Box) : Evt := ⟨b, a, rdA f o J b a s, takesF seed (f.Blocks.getD b default) a (rdA f o J b a s)⟩
/-- Edits, then the instruction. -/
@[reducible] def fulA (b a : Nat) (s : Box) : Box := inA f o J seed b a ⟨edA o b a s.C, s.w⟩
@[reducible] def fuvA (b a : Nat) (s : Box) : Evt := evA f o J seed b a ⟨edA o b a s.C, s.w⟩
/-- So many steps from the p'th place of a block on (0: its entry). -/
def outS : Nat → Nat → Nat → Box → List Evt → List Evt
  | 0, _, _, _, L => L
  | k + 1, b, 0, s, L =>
    if 0 < (f.Blocks.getD b default).Instrs.length then outS k b 1 s L
    else if (f.Blocks.getD b default).Edges.length = 0 then L
    else outS k ((f.Blocks.getD b default).Edges.getD 0 default).Block.toNat 0 ⟨edA o b (f.Blocks.getD b default).Instrs.length s.C, s.w⟩ L
  | k + 1, b, p + 1, s, L =>
    if p + 1 < (f.Blocks.getD b default).Instrs.length then outS k b (p + 2) (fulA f o J seed b p s) (L ++ [fuvA f o J seed b p s])
    else if (f.Blocks.getD b default).Edges.length = 0 then L ++ [fuvA f o J seed b p s]
    else outS k ((f.Blocks.getD b default).Edges.getD (fuvA f o J seed b p s).edge.toNat default).Block.toNat 0 ⟨edA o b (f.Blocks.getD b default).Instrs.length (fulA f o J seed b p s).C, (fulA f o J seed b p s).w⟩ (L ++ [fuvA f o J seed b p s])
/-- Behind a block's instructions. -/
def conM (k b : Nat) (ed : Int) (s : Box) (L : List Evt) : List Evt :=
  if (f.Blocks.getD b default).Edges.length = 0 then L
  else outS f o J seed k ((f.Blocks.getD b default).Edges.getD ed.toNat default).Block.toNat 0 ⟨edA o b (f.Blocks.getD b default).Instrs.length s.C, s.w⟩ L
end
section
variable {f : Fun} {o : Oup} {J : List Int} {seed : Int}
theorem outS_zero {b p : Nat} {s : Box} {L : List Evt} : outS f o J seed 0 b p s L = L := by cases p <;> rfl
theorem outS_in {k b : Nat} {s : Box} {L : List Evt} : outS f o J seed (k + 1) b 0 s L = if 0 < (f.Blocks.getD b default).Instrs.length then outS f o J seed k b 1 s L else conM f o J seed k b 0 s L := by
  rw [outS]; rfl
theorem outS_at {k b p : Nat} {s : Box} {L : List Evt} : outS f o J seed (k + 1) b (p + 1) s L = if p + 1 < (f.Blocks.getD b default).Instrs.length then outS f o J seed k b (p + 2) (fulA f o J seed b p s) (L ++ [fuvA f o J seed b p s]) else conM f o J seed k b (fuvA f o J seed b p s).edge (fulA f o J seed b p s) (L ++ [fuvA f o J seed b p s]) := by
  rw [outS]; rfl
theorem spA_w {b a : Nat} {s : Box} : (spA f o J b a s).w ≤ s.w + (insAt f b a).Operands.length + (insAt f b a).Spoils.length := by
  show (spF J _ _ _).w ≤ _
  rw [spF_w]
  have := dwF_w (J := J) (x := insAt f b a) (p := plAt o b a) (s := s) (insAt f b a).Operands.length
  omega
theorem outS_ok (hC : Chkd f) : ∀ (k b p : Nat) (s : Box) (L : List Evt), b < f.Blocks.length → p ≤ (f.Blocks.getD b default).Instrs.length → (∀ e ∈ L, e.read.length ≤ 6) → (∀ e ∈ outS f o J seed k b p s L, e.read.length ≤ 6) ∧ (outS f o J seed k b p s L).length ≤ L.length + k := by
  intro k
  induction k with
  | zero => intro b p s L _ _ hL; rw [outS_zero]; exact ⟨hL, Nat.le_refl _⟩
  | succ k ih =>
    intro b p s L hb hp hL
    have hedge : ∀ (ed : Int) (s2 : Box) (L2 : List Evt), (∀ e ∈ L2, e.read.length ≤ 6) → ((f.Blocks.getD b default).Edges.length = 0 ∨ (0 ≤ ed ∧ ed < (f.Blocks.getD b default).Edges.length)) → (∀ e ∈ conM f o J seed k b ed s2 L2, e.read.length ≤ 6) ∧ (conM f o J seed k b ed s2 L2).length ≤ L2.length + k := by
      intro ed s2 L2 hL2 he
      unfold conM
      split
      · exact ⟨hL2, by omega⟩
      · have hen : ed.toNat < (f.Blocks.getD b default).Edges.length := by omega
        have := hC.e.edge b ed.toNat hb hen
        exact ih _ _ _ _ (by omega) (Nat.zero_le _) hL2
    cases p with
    | zero =>
      rw [outS_in]
      split
      · rename_i h
        have := ih b 1 s L hb h hL
        exact ⟨this.1, by omega⟩
      · have := hedge 0 s L hL (by omega)
        exact ⟨this.1, by omega⟩
    | succ p =>
      rw [outS_at]
      have hL2 : ∀ e ∈ L ++ [fuvA f o J seed b p s], e.read.length ≤ 6 := by
        intro e he
        rcases List.mem_append.1 he with he | he
        · exact hL e he
        · simp only [List.mem_singleton] at he
          subst he
          exact Nat.le_trans (rdM_len _) (hC.e.siz.ops b p hb (by omega))
      have hl : (L ++ [fuvA f o J seed b p s]).length = L.length + 1 := by simp
      split
      · rename_i h
        have := ih b (p + 2) (fulA f o J seed b p s) _ hb h hL2
        rw [hl] at this
        exact ⟨this.1, by omega⟩
      · rename_i h
        have := hedge (fuvA f o J seed b p s).edge (fulA f o J seed b p s) _ hL2 (by
          by_cases he : (f.Blocks.getD b default).Edges.length = 0
          · exact .inl he
          · exact .inr (takes_lt (by omega) (by omega)))
        rw [hl] at this
        exact ⟨this.1, by omega⟩
end
/-- Junk everywhere: the first c cells. -/
def bgF (m : Mch) (J : List Int) : Nat → Box
  | 0 => ⟨fun _ => 0, 0⟩
  | c + 1 => if 22 ≤ c ∨ ((c % 11 : Nat) : Int) ≤ regF m (c / 11 : Nat) then ⟨setC (bgF m J c).C c (wildF J (bgF m J c).w), (bgF m J c).w + 1⟩ else bgF m J c
theorem bgF_yes {m : Mch} {J : List Int} {c : Nat} (h : 22 ≤ c ∨ ((c % 11 : Nat) : Int) ≤ regF m (c / 11 : Nat)) : bgF m J (c + 1) = ⟨setC (bgF m J c).C c (wildF J (bgF m J c).w), (bgF m J c).w + 1⟩ := if_pos h
theorem bgF_no {m : Mch} {J : List Int} {c : Nat} (h : ¬ (22 ≤ c ∨ ((c % 11 : Nat) : Int) ≤ regF m (c / 11 : Nat))) : bgF m J (c + 1) = bgF m J c := if_neg h
theorem bgF_w {m : Mch} {J : List Int} : ∀ c, (bgF m J c).w ≤ c
  | 0 => Nat.le_refl _
  | c + 1 => by
    have := bgF_w (m := m) (J := J) c
    by_cases h : 22 ≤ c ∨ ((c % 11 : Nat) : Int) ≤ regF m (c / 11 : Nat)
    · rw [bgF_yes h]; show _ + 1 ≤ _; omega
    · rw [bgF_no h]; omega
theorem bgF_far {m : Mch} {J : List Int} : ∀ c j, c ≤ j → (bgF m J c).C j = 0
  | 0, _, _ => rfl
  | c + 1, j, hj => by
    have := bgF_far (m := m) (J := J) c j (by omega)
    by_cases h : 22 ≤ c ∨ ((c % 11 : Nat) : Int) ≤ regF m (c / 11 : Nat)
    · rw [bgF_yes h]; show (if j = c then _ else _) = _; rw [if_neg (by omega)]; exact this
    · rw [bgF_no h]; exact this
theorem bgF_skip {m : Mch} {J : List Int} {c n : Nat} (hc : c < 2) (hn : (n : Int) = regF m c + 1) : ∀ d, n + d ≤ 11 → bgF m J (11 * c + n + d) = bgF m J (11 * c + n)
  | 0, _ => rfl
  | d + 1, h => by
    show bgF m J (11 * c + n + d + 1) = _
    have e1 : (11 * c + n + d) % 11 = n + d := by omega
    have e2 : (11 * c + n + d) / 11 = c := by omega
    rw [bgF_no (by rw [e1, e2]; omega)]
    exact bgF_skip hc hn d (by omega)
end Go.Proofs.Ytnbgpgbbfjaomaa

/- The runner of an output, as own cells; contracts of mach's spoilt, at, step and of the document's cellOf, wildOf, joinedInts. Condition: places that may be. -/
namespace Go.Proofs.Ytnbgpgbbfjaomaa
open Go Go.Abs Go.RowKit Go.Abs.Gra

theorem chkI {b : Bool} {K : Prop} (h : b = true) (k : K) : chk b K := by subst h; exact k
/-- The runner's cells: function, output, seed, steps left, registers, slots, junk, next, events. -/
def rnL (f : Fun) (o : Oup) (J : List Int) (seed left : Int) (C : Nat → Int) (w : Nat) (s sn e en : Nat) : List AV :=
  f.cells ++ o.cells ++ [.i64 seed, .i64 left, .i64 (C 0), .i64 (C 1), .i64 (C 2), .i64 (C 3), .i64 (C 4), .i64 (C 5), .i64 (C 6), .i64 (C 7), .i64 (C 8), .i64 (C 9), .i64 (C 10), .i64 (C 11), .i64 (C 12), .i64 (C 13), .i64 (C 14), .i64 (C 15), .i64 (C 16), .i64 (C 17), .i64 (C 18), .i64 (C 19), .i64 (C 20), .i64 (C 21), .sl ⟨s, []⟩ sn, ints J, .i64 (nxF J w), .sl ⟨e, []⟩ en]
@[reducible] def rnmC (f : Fun) (o : Oup) (J : List Int) (seed left : Int) (C : Nat → Int) (w : Nat) (s sn e en : Nat) : HO := .cells (rnL f o J seed left C w s sn e en)
section
variable {f : Fun} {o : Oup} {J : List Int} {seed left : Int} {C C' : Nat → Int} {w s sn e en : Nat}
theorem rnL_len : (rnL f o J seed left C w s sn e en).length = 33 := rfl
theorem rnL_get : ∀ {i : Nat}, i < 22 → ((rnL f o J seed left C w s sn e en).drop (7 + i)).headD .any = .i64 (C i)
  | 0, _ => rfl
  | 1, _ => rfl
  | 2, _ => rfl
  | 3, _ => rfl
  | 4, _ => rfl
  | 5, _ => rfl
  | 6, _ => rfl
  | 7, _ => rfl
  | 8, _ => rfl
  | 9, _ => rfl
  | 10, _ => rfl
  | 11, _ => rfl
  | 12, _ => rfl
  | 13, _ => rfl
  | 14, _ => rfl
  | 15, _ => rfl
  | 16, _ => rfl
  | 17, _ => rfl
  | 18, _ => rfl
  | 19, _ => rfl
  | 20, _ => rfl
  | 21, _ => rfl
  | _ + 22, h => absurd h (by omega)
theorem rnL_chk {i : Nat} (h : i < 22) : Nat.blt 0 ((rnL f o J seed left C w s sn e en).drop (7 + i)).length = true := by
  rw [List.length_drop, rnL_len, Nat.blt_eq]; omega
theorem rnL_chk2 {i : Nat} (h : i < 22) : Nat.ble (7 + i + 1) (rnL f o J seed left C w s sn e en).length = true := by
  rw [rnL_len, Nat.ble_eq]; omega
theorem rnL_set : ∀ {i : Nat}, i < 22 → ∀ v : Int, (rnL f o J seed left C w s sn e en).take (7 + i) ++ [.i64 v] ++ (rnL f o J seed left C w s sn e en).drop (7 + i + 1) = rnL f o J seed left (setC C i v) w s sn e en
  | 0, _, v => rfl
  | 1, _, v => rfl
  | 2, _, v => rfl
  | 3, _, v => rfl
  | 4, _, v => rfl
  | 5, _, v => rfl
  | 6, _, v => rfl
  | 7, _, v => rfl
  | 8, _, v => rfl
  | 9, _, v => rfl
  | 10, _, v => rfl
  | 11, _, v => rfl
  | 12, _, v => rfl
  | 13, _, v => rfl
  | 14, _, v => rfl
  | 15, _, v => rfl
  | 16, _, v => rfl
  | 17, _, v => rfl
  | 18, _, v => rfl
  | 19, _, v => rfl
  | 20, _, v => rfl
  | 21, _, v => rfl
  | _ + 22, h, v => absurd h (by omega)
theorem rnL_congr (h : ∀ i, i < 22 → C i = C' i) : rnL f o J seed left C w s sn e en = rnL f o J seed left C' w s sn e en := by
  unfold rnL
  rw [h 0 (by decide), h 1 (by decide), h 2 (by decide), h 3 (by decide), h 4 (by decide), h 5 (by decide), h 6 (by decide), h 7 (by decide), h 8 (by decide), h 9 (by decide), h 10 (by decide), h 11 (by decide), h 12 (by decide), h 13 (by decide), h 14 (by decide), h 15 (by decide), h 16 (by decide), h 17 (by decide), h 18 (by decide), h 19 (by decide), h 20 (by decide), h 21 (by decide)]
end
@[reducible] def rnH (f : Fun) (o : Oup) (J : List Int) (seed left : Int) (C : Nat → Int) (w sn : Nat) (L : List Evt) : List (Nat × HO) := [(1001, rnmC f o J seed left C w 1002 sn 1003 L.length), (1002, rowG sn (fun i => C (22 + i))), (1003, rowE L)]
theorem nxF_some {J : List Int} {w : Nat} (h : J.length ≠ 0) : nxF J w = w := if_neg h
theorem tmod_nat {w n : Nat} : ((w : Int).tmod n).toNat = w % n := by rw [Int.tmod_eq_emod_of_nonneg (by omega)]; omega
set_option maxHeartbeats 1000000 in
theorem m_mstep (f : Fun) (o : Oup) (J : List Int) (seed left : Int) (C : Nat → Int) (w sn : Nat) (L : List Evt) : ACallM B.P 45 ⟨[.obj 1001 0], rnH f o J seed left C w sn L, .bool (decide (IntKind.i64.wrap (left - 1) ≥ 0)), rnH f o J seed (IntKind.i64.wrap (left - 1)) C w sn L⟩ := by
  refine ACallM.enter B _ _ Try.func45 rfl rfl Try.ntmps45 Try.results45 rfl ?_ fun hreal => ?_
  · refine And.intro ?_ (And.intro ?_ ?_)
    all_goals repeat' (first | exact rfl | exact trivial | refine And.intro ?_ ?_)
  clear hreal
  repeat (first | refine AWp.seq ?_ | refine AWp.block ?_ | refine AWp.skip ?_)
  refine AWp.region ?_
  intro _
  repeat (first | refine AWp.seq ?_ | refine AWp.block ?_ | refine AWp.skip ?_)
  refine AWp.region ?_
  intro _
  repeat (first | refine AWp.seq ?_ | refine AWp.block ?_ | refine AWp.skip ?_)
  refine AWp.region ?_
  intro _
  refine AWp.ret ⟨Or.inl rfl, ?_⟩
  intro _
  refine And.intro rfl (And.intro trivial (And.intro rfl (And.intro ?_ (And.intro ⟨_, _, rfl, rfl, fun i hi => rfl⟩ (And.intro trivial (And.intro ⟨_, _, rfl, rfl, fun i hi => rfl⟩ (And.intro trivial trivial)))))))
  all_goals repeat' (first | exact rfl | exact trivial | refine And.intro ?_ ?_)
set_option maxHeartbeats 1000000 in
theorem m_spoilt (f : Fun) (o : Oup) (J : List Int) (hJ : J.length ≤ 64) (seed left : Int) (C : Nat → Int) (w sn : Nat) (hw : w ≤ 1000000) (L : List Evt) : ACallM B.P 79 ⟨[.obj 1001 7], rnH f o J seed left C w sn L, .i64 (wildF J w), rnH f o J seed left C (w + 1) sn L⟩ := by
  refine ACallM.enter B _ _ Try.func79 rfl rfl Try.ntmps79 Try.results79 rfl ?_ fun hreal => ?_
  · refine And.intro ?_ (And.intro ?_ ?_)
    all_goals repeat' (first | exact rfl | exact trivial | refine And.intro ?_ ?_)
  clear hreal
  repeat (first | refine AWp.seq ?_ | refine AWp.block ?_ | refine AWp.skip ?_)
  refine AWp.region ?_
  intro _
  repeat (first | refine AWp.seq ?_ | refine AWp.block ?_ | refine AWp.skip ?_)
  refine AWp.region ?_
  intro _
  repeat (first | refine AWp.seq ?_ | refine AWp.block ?_ | refine AWp.skip ?_)
  refine AWp.cond (And.intro (fun h1 => ?_) (fun h1 => ?_))
  · have hz : J.length = 0 := by simpa using h1
    have e1 : wildF J w = 0 := if_pos hz
    have e2 : nxF J w = nxF J (w + 1) := by unfold nxF; rw [if_pos hz, if_pos hz]
    repeat (first | refine AWp.seq ?_ | refine AWp.block ?_ | refine AWp.skip ?_)
    refine AWp.region ?_
    intro _
    refine AWp.ret ⟨Or.inl rfl, ?_⟩
    intro _
    refine And.intro (tupI e1.symm) (And.intro trivial (And.intro (congrArg (fun z => some (HO.cells ((rnL f o J seed left C w 1002 sn 1003 L.length).take 31 ++ [AV.i64 z, .sl 1003 L.length]))) e2) (And.intro ?_ (And.intro ⟨_, _, rfl, rfl, fun i hi => rfl⟩ (And.intro trivial (And.intro ⟨_, _, rfl, rfl, fun i hi => rfl⟩ (And.intro trivial trivial)))))))
    all_goals repeat' (first | exact rfl | exact trivial | refine And.intro ?_ ?_)
  · have hz : J.length ≠ 0 := by simpa using h1
    have e1 : wildF J w = J.getD (w % J.length) default := if_neg hz
    have e3 : nxF J w = w := if_neg hz
    have e2 : IntKind.i64.wrap (nxF J w + 1) = nxF J (w + 1) := by rw [nxF_some hz, nxF_some hz, wrap_in (by omega) (by omega)]; omega
    have hlt : w % J.length < J.length := Nat.mod_lt _ (by omega)
    repeat (first | refine AWp.seq ?_ | refine AWp.block ?_ | refine AWp.skip ?_)
    refine AWp.quietFirst (.q 0 (.q 1 (.q 2 (.q 3 (.q 4 (.q 5 (.q 6 (.q 7 (.q 8 (.q 9 (.q 10 (.q 11 (.q 12 (.q 13 (.q 14 (.q 15 (.q 16 .fin))))))))))))))))) [0, 1, 2, 3, 4, 5, 6, 7, 8, 9, 10, 11, 12, 13, 14, 15, 16] [1001, 1002, 1003] mixed (by kernel_rfl) ?_
    refine And.intro (by omega) ?_
    refine And.intro (fun _ => ?_) ?_
    · rw [nxF_some hz]
      refine ⟨Int.tmod_nonneg _ (by omega), ?_⟩
      rw [Int.tmod_eq_emod_of_nonneg (by omega)]
      exact Int.emod_lt_of_pos _ (by omega)
    intro _
    repeat (first | refine AWp.seq ?_ | refine AWp.block ?_ | refine AWp.skip ?_)
    refine AWp.region ?_
    intro _
    repeat (first | refine AWp.seq ?_ | refine AWp.block ?_ | refine AWp.skip ?_)
    refine AWp.region ?_
    intro _
    refine AWp.ret ⟨Or.inl rfl, ?_⟩
    intro _
    refine And.intro (tupI (show J.getD ((nxF J w).tmod J.length).toNat default = wildF J w from by rw [nxF_some hz, tmod_nat, e1])) (And.intro trivial (And.intro (congrArg (fun z => some (HO.cells ((rnL f o J seed left C w 1002 sn 1003 L.length).take 31 ++ [AV.i64 z, .sl 1003 L.length]))) e2) (And.intro ?_ (And.intro ⟨_, _, rfl, rfl, fun i hi => rfl⟩ (And.intro trivial (And.intro ⟨_, _, rfl, rfl, fun i hi => rfl⟩ (And.intro trivial trivial)))))))
    all_goals repeat' (first | exact rfl | exact trivial | refine And.intro ?_ ?_)
set_option maxHeartbeats 1000000 in
theorem m_atReg (f : Fun) (o : Oup) (J : List Int) (seed left : Int) (C : Nat → Int) (w sn : Nat) (L : List Evt) (p : Plc) (h1 : p.Kind = 1) (h2 : 0 ≤ p.Class ∧ p.Class < 2) (h3 : 0 ≤ p.N ∧ p.N < 11) : ACallM B.P 80 ⟨[.obj 1001 7, p.av], rnH f o J seed left C w sn L, .obj 1001 (7 + celF p), rnH f o J seed left C w sn L⟩ := by
  refine ACallM.enter B _ _ Try.func80 rfl rfl Try.ntmps80 Try.results80 rfl ?_ fun hreal => ?_
  · refine And.intro ?_ (And.intro ?_ ?_)
    all_goals repeat' (first | exact rfl | exact trivial | refine And.intro ?_ ?_)
  clear hreal
  repeat (first | refine AWp.seq ?_ | refine AWp.block ?_ | refine AWp.skip ?_)
  refine AWp.region ?_
  intro _
  refine AWp.freezeObj 3 rfl rfl ?_
  repeat (first | refine AWp.seq ?_ | refine AWp.block ?_ | refine AWp.skip ?_)
  refine AWp.region ?_
  intro _
  repeat (first | refine AWp.seq ?_ | refine AWp.block ?_ | refine AWp.skip ?_)
  refine AWp.cond (And.intro (fun h => ?_) (fun h => ?_))
  · repeat (first | refine AWp.seq ?_ | refine AWp.block ?_ | refine AWp.skip ?_)
    refine AWp.quietFirst (.q 0 (.q 1 (.q 2 (.q 3 (.q 4 (.q 5 (.q 6 (.q 7 (.q 8 (.q 9 .fin)))))))))) [0, 1, 2, 3, 4, 5, 6, 7, 8, 9] [1001, 1002, 1003] mixed (by kernel_rfl) ?_
    refine And.intro (fun _ => h2) (And.intro (fun _ => h3) ?_)
    intro _
    refine AWp.ret ⟨Or.inl rfl, ?_⟩
    intro _
    refine And.intro (congrArg (fun z => AV.obj 1001 z) (show 7 + 0 + p.Class.toNat * 11 + p.N.toNat * 1 = 7 + celF p from by rw [celF_reg h1]; omega)) (And.intro rfl (And.intro rfl (And.intro ?_ (And.intro ⟨_, _, rfl, rfl, fun i hi => rfl⟩ (And.intro trivial (And.intro ⟨_, _, rfl, rfl, fun i hi => rfl⟩ (And.intro trivial trivial)))))))
    all_goals repeat' (first | exact rfl | exact trivial | refine And.intro ?_ ?_)
  · exfalso
    have h : (p.Kind == 1) = false := h
    rw [h1] at h; cases h
set_option maxHeartbeats 1000000 in
theorem m_atSlot (f : Fun) (o : Oup) (J : List Int) (seed left : Int) (C : Nat → Int) (w sn : Nat) (L : List Evt) (p : Plc) (h1 : p.Kind = 2) (h3 : 0 ≤ p.N ∧ p.N < sn) : ACallM B.P 80 ⟨[.obj 1001 7, p.av], rnH f o J seed left C w sn L, .rp 1002 1 p.N.toNat 0, rnH f o J seed left C w sn L⟩ := by
  refine ACallM.enter B _ _ Try.func80 rfl rfl Try.ntmps80 Try.results80 rfl ?_ fun hreal => ?_
  · refine And.intro ?_ (And.intro ?_ ?_)
    all_goals repeat' (first | exact rfl | exact trivial | refine And.intro ?_ ?_)
  clear hreal
  repeat (first | refine AWp.seq ?_ | refine AWp.block ?_ | refine AWp.skip ?_)
  refine AWp.region ?_
  intro _
  refine AWp.freezeObj 3 rfl rfl ?_
  repeat (first | refine AWp.seq ?_ | refine AWp.block ?_ | refine AWp.skip ?_)
  refine AWp.region ?_
  intro _
  repeat (first | refine AWp.seq ?_ | refine AWp.block ?_ | refine AWp.skip ?_)
  refine AWp.cond (And.intro (fun h => ?_) (fun h => ?_))
  · exfalso
    have h : (p.Kind == 1) = true := h
    rw [h1] at h; cases h
  · repeat (first | refine AWp.seq ?_ | refine AWp.block ?_ | refine AWp.skip ?_)
    refine AWp.quietFirst (.q 0 (.q 1 (.q 2 (.q 3 (.q 4 (.q 5 (.q 6 (.q 7 .fin)))))))) [0, 1, 2, 3, 4, 5, 6, 7] [1001, 1002, 1003] mixed (by kernel_rfl) ?_
    refine And.intro (fun _ => h3) ?_
    intro _
    refine AWp.ret ⟨Or.inl rfl, ?_⟩
    intro _
    refine And.intro rfl (And.intro rfl (And.intro rfl (And.intro ?_ (And.intro ⟨_, _, rfl, rfl, fun i hi => rfl⟩ (And.intro trivial (And.intro ⟨_, _, rfl, rfl, fun i hi => rfl⟩ (And.intro trivial trivial)))))))
    all_goals repeat' (first | exact rfl | exact trivial | refine And.intro ?_ ?_)
theorem c_cellOf {fr : Nat} (hf : fr ≤ 1000) {p : Plc} (h : PlOk fr p) : ACallIs B.P 51 [p.av] (.i64 (celF p)) := by
  refine ACallIs.enter B _ _ Try.func51 rfl rfl Try.ntmps51 Try.results51 rfl fun hreal => ?_
  clear hreal
  repeat (first | refine AWp.seq ?_ | refine AWp.block ?_ | refine AWp.skip ?_)
  refine AWp.region ?_
  intro _
  refine AWp.freezeObj 1 rfl rfl ?_
  repeat (first | refine AWp.seq ?_ | refine AWp.block ?_ | refine AWp.skip ?_)
  refine AWp.region ?_
  intro _
  repeat (first | refine AWp.seq ?_ | refine AWp.block ?_ | refine AWp.skip ?_)
  refine AWp.cond (And.intro (fun h1 => ?_) (fun h1 => ?_))
  · have hk : p.Kind = 2 := by simpa using h1
    repeat (first | refine AWp.seq ?_ | refine AWp.block ?_ | refine AWp.skip ?_)
    refine AWp.region ?_
    intro _
    refine AWp.ret ⟨Or.inl rfl, rfl, ?_⟩
    intro _
    refine tupI ?_
    rw [celF_slot hk]
    rcases h with h | h
    · omega
    · show IntKind.i64.wrap (22 + p.N) = _
      rw [wrap_in (by omega) (by omega)]; omega
  · have hk : p.Kind ≠ 2 := by simpa using h1
    repeat (first | refine AWp.seq ?_ | refine AWp.block ?_ | refine AWp.skip ?_)
    refine AWp.region ?_
    intro _
    refine AWp.ret ⟨Or.inl rfl, rfl, ?_⟩
    intro _
    refine tupI ?_
    rcases h with h | h
    · rw [celF_reg h.1]
      show IntKind.i64.wrap (IntKind.i64.wrap (11 * p.Class) + p.N) = _
      rw [wrap_in (n := 11 * p.Class) (by omega) (by omega), wrap_in (by omega) (by omega)]; omega
    · exact absurd h.1 hk
theorem c_wildOf (J : List Int) (w : Nat) (hw : w ≤ 1000000) : ACallIs B.P 50 [ints J, .i64 w] (.i64 (wildF J w)) := by
  refine ACallIs.enter B _ _ Try.func50 rfl rfl Try.ntmps50 Try.results50 rfl fun hreal => ?_
  clear hreal
  repeat (first | refine AWp.seq ?_ | refine AWp.block ?_ | refine AWp.skip ?_)
  refine AWp.region ?_
  intro _
  repeat (first | refine AWp.seq ?_ | refine AWp.block ?_ | refine AWp.skip ?_)
  refine AWp.region ?_
  intro _
  repeat (first | refine AWp.seq ?_ | refine AWp.block ?_ | refine AWp.skip ?_)
  refine AWp.cond (And.intro (fun h1 => ?_) (fun h1 => ?_))
  · have hz : J.length = 0 := by simpa using h1
    repeat (first | refine AWp.seq ?_ | refine AWp.block ?_ | refine AWp.skip ?_)
    refine AWp.region ?_
    intro _
    refine AWp.ret ⟨Or.inl rfl, rfl, ?_⟩
    intro _
    exact tupI (show 0 = wildF J w from (if_pos hz).symm)
  · have hz : J.length ≠ 0 := by simpa using h1
    repeat (first | refine AWp.seq ?_ | refine AWp.block ?_ | refine AWp.skip ?_)
    refine AWp.region ?_
    refine And.intro (by omega) ?_
    refine And.intro (fun _ => ?_) ?_
    · refine ⟨Int.tmod_nonneg _ (by omega), ?_⟩
      rw [Int.tmod_eq_emod_of_nonneg (by omega)]
      exact Int.emod_lt_of_pos _ (by omega)
    intro _
    refine AWp.ret ⟨Or.inl rfl, rfl, ?_⟩
    intro _
    exact tupI (show J.getD ((w : Int).tmod J.length).toNat default = wildF J w from by rw [tmod_nat]; exact (if_neg hz).symm)
set_option maxHeartbeats 1000000 in
theorem m_joinedInts (n : Nat) (C : Nat → Int) (hn : n ≤ 100000) : ACallM B.P 52 ⟨[.sl 1001 n, nilV], [(1001, rowG n C)], .sl 101 n, [(1001, rowG n C), (101, rowG n C)]⟩ := by
  have hnm : n ≤ maxLen := by unfold maxLen; omega
  refine ACallM.enter B _ _ Try.func52 rfl rfl Try.ntmps52 Try.results52 rfl ?_ fun hreal => ?_
  · refine And.intro ?_ (And.intro ?_ ?_)
    all_goals repeat' (first | exact rfl | exact trivial | refine And.intro ?_ ?_)
  clear hreal
  repeat (first | refine AWp.seq ?_ | refine AWp.block ?_ | refine AWp.skip ?_)
  refine AWp.region ?_
  intro _
  repeat (first | refine AWp.seq ?_ | refine AWp.block ?_ | refine AWp.skip ?_)
  refine AWp.region ?_
  intro _
  repeat (first | refine AWp.seq ?_ | refine AWp.block ?_ | refine AWp.skip ?_)
  refine AWp.region ?_
  intro _
  refine AWp.adopt 5 60 3 1 rfl rfl rfl ?_
  repeat (first | refine AWp.seq ?_ | refine AWp.block ?_ | refine AWp.skip ?_)
  refine AWp.loop (fun k : Nat => ⟨[(0, .sl 1001 n), (1, nilV), (5, .sl 60 k), (6, .i64 k)], [(1001, rowG n C), (60, rowG k C)]⟩) (fun k => k ≤ n) (fun k => n - k) 0 (Nat.zero_le _) ?_ ?_
  · refine And.intro ?_ (And.intro ⟨_, _, rfl, rfl, fun i hi => rfl⟩ (And.intro trivial (And.intro ⟨_, _, rfl, rfl, fun i hi => absurd hi (Nat.not_lt_zero _)⟩ (And.intro trivial trivial))))
    all_goals repeat' (first | exact rfl | exact trivial | refine And.intro ?_ ?_)
  intro k hk
  repeat (first | refine AWp.seq ?_ | refine AWp.block ?_ | refine AWp.skip ?_)
  refine AWp.region ?_
  intro _
  repeat (first | refine AWp.seq ?_ | refine AWp.block ?_ | refine AWp.skip ?_)
  refine AWp.cond (And.intro (fun h1 => ?_) (fun h1 => ?_))
  · have hk' : k < n := Int.ofNat_lt.1 (of_decide_eq_true h1)
    repeat (first | refine AWp.seq ?_ | refine AWp.block ?_ | refine AWp.skip ?_)
    refine AWp.region ?_
    refine And.intro (fun _ => And.intro (Int.natCast_nonneg _) (Int.ofNat_lt.2 hk')) ?_
    refine And.intro (fun _ => hk') ?_
    refine And.intro (Nat.le_refl _) (And.intro (fun i hi => ?_) (And.intro rfl (And.intro (by omega) ?_)))
    · have e : i = 0 := by omega
      subst e; rfl
    intro _
    refine AWp.rename 20 60 rfl rfl ?_
    repeat (first | refine AWp.seq ?_ | refine AWp.block ?_ | refine AWp.skip ?_)
    refine AWp.region ?_
    intro _
    refine round_end (k + 1) hk' ?_ (by omega)
    refine And.intro ?_ (And.intro ⟨_, _, rfl, rfl, fun i hi => rfl⟩ (And.intro trivial (And.intro ⟨_, _, rfl, rfl, fun i hi => snocG_row hi rfl⟩ (And.intro trivial trivial))))
    all_goals repeat' (first | exact rfl | exact trivial | exact congrArg (fun z => some (AV.i64 z)) (wrap_succ hk' hnm) | refine And.intro ?_ ?_)
  have hk3 : ¬ (k : Int) < n := of_decide_eq_false h1
  obtain rfl : k = n := by omega
  refine AWp.exit ?_
  repeat (first | refine AWp.seq ?_ | refine AWp.block ?_ | refine AWp.skip ?_)
  refine AWp.region ?_
  intro _
  repeat (first | refine AWp.seq ?_ | refine AWp.block ?_ | refine AWp.skip ?_)
  refine AWp.loop (fun _ : Nat => ⟨[(1, nilV), (5, .sl 60 k), (7, .i64 (0 : Nat))], [(1001, rowG k C), (60, rowG k C)]⟩) (fun _ => True) (fun _ => 0) 0 trivial ?_ ?_
  · refine And.intro ?_ (And.intro ⟨_, _, rfl, rfl, fun i hi => rfl⟩ (And.intro trivial (And.intro ⟨_, _, rfl, rfl, fun i hi => rfl⟩ (And.intro trivial trivial))))
    all_goals repeat' (first | exact rfl | exact trivial | refine And.intro ?_ ?_)
  intro j hj
  repeat (first | refine AWp.seq ?_ | refine AWp.block ?_ | refine AWp.skip ?_)
  refine AWp.region ?_
  intro _
  repeat (first | refine AWp.seq ?_ | refine AWp.block ?_ | refine AWp.skip ?_)
  refine AWp.cond (And.intro (fun h2 => ?_) (fun h2 => ?_))
  · cases h2
  refine AWp.exit ?_
  refine AWp.rename 60 101 rfl rfl ?_
  repeat (first | refine AWp.seq ?_ | refine AWp.block ?_ | refine AWp.skip ?_)
  refine AWp.region ?_
  intro _
  refine AWp.ret ⟨Or.inl rfl, ?_⟩
  intro _
  refine And.intro rfl (And.intro rfl (And.intro ⟨_, _, rfl, rfl, fun i hi => rfl⟩ (And.intro trivial (And.intro ⟨_, _, rfl, rfl, fun i hi => rfl⟩ (And.intro trivial trivial)))))
end Go.Proofs.Ytnbgpgbbfjaomaa

/- Contract of the runner's moves. Condition: moves between places that may be. -/
namespace Go.Proofs.Ytnbgpgbbfjaomaa
open Go Go.Abs Go.RowKit Go.Abs.Gra

section
variable {f : Fun} {o : Oup} {J : List Int} {seed left : Int} {C C' : Nat → Int} {w s sn e en : Nat}
theorem ldI {X : List AV} {i : Nat} (hi : i < 22) (hX : X = rnL f o J seed left C w s sn e en) : (X.drop (7 + i)).headD .any = .i64 (C i) := by subst hX; exact rnL_get hi
theorem ldC {X : List AV} {i : Nat} (hi : i < 22) (hX : X = rnL f o J seed left C w s sn e en) : Nat.blt 0 (X.drop (7 + i)).length = true := by subst hX; exact rnL_chk hi
theorem loadK {X : List AV} {off : Nat} {x : AV} {K : AV → Prop} (h1 : Nat.blt 0 (X.drop off).length = true) (h2 : (X.drop off).headD .any = x) (k : K x) : chk (Nat.blt 0 (X.drop off).length) (K ((X.drop off).headD .any)) := by
  rw [h1, h2]; exact k
theorem stC {i : Nat} (hi : i < 22) : Nat.ble (7 + i + 1) 33 = true := by rw [Nat.ble_eq]; omega
theorem cl_reg {i : Nat} (hi : i < 22) {v v' : Int} (hv : v = v') : some (HO.cells ((rnL f o J seed left C w s sn e en).take (7 + i) ++ [.i64 v] ++ (rnL f o J seed left C w s sn e en).drop (7 + i + 1))) = some (rnmC f o J seed left (setC C i v') w s sn e en) := by
  subst hv; exact congrArg (fun c => some (HO.cells c)) (rnL_set hi v)
theorem cl_slot {p : Plc} (h : p.Kind = 2) {v : Int} : some (rnmC f o J seed left C w s sn e en) = some (rnmC f o J seed left (setC C (celF p) v) w s sn e en) :=
  congrArg (fun c => some (HO.cells c)) (rnL_congr fun i hi => by rw [celF_slot h]; exact (if_neg (by omega)).symm)
theorem rw_reg {k i : Nat} (hk : k < 22) {v : Int} : intC (setC C k v (22 + i)) = intC (C (22 + i)) := congrArg intC (if_neg (by omega))
theorem rw_slot {p : Plc} (h : p.Kind = 2) {v v' : Int} (hv : v' = v) {i : Nat} : intC (setC C (celF p) v (22 + i)) = if i = p.N.toNat then intC v' else intC (C (22 + i)) := by
  subst hv
  unfold setC
  rw [celF_slot h]
  by_cases e : i = p.N.toNat
  · rw [if_pos e, if_pos (by omega)]
  · rw [if_neg e, if_neg (by omega)]
end
theorem PlOk.reg {fr : Nat} {p : Plc} (h : PlOk fr p) (hk : p.Kind = 1) : (0 ≤ p.Class ∧ p.Class < 2) ∧ (0 ≤ p.N ∧ p.N < 11) ∧ celF p < 22 := by
  rcases h with h | h
  · exact ⟨h.2.1 |> fun a => ⟨a, h.2.2.1⟩, by omega, by rw [celF_reg hk]; omega⟩
  · omega
theorem PlOk.slot {fr : Nat} {p : Plc} (h : PlOk fr p) (hk : p.Kind = 2) : 0 ≤ p.N ∧ p.N < fr := by
  rcases h with h | h
  · omega
  · exact h.2.2
theorem PlOk.kind {fr : Nat} {p : Plc} (h : PlOk fr p) : p.Kind = 1 ∨ p.Kind = 2 := by
  rcases h with h | h
  · exact .inl h.1
  · exact .inr h.1
set_option maxHeartbeats 4000000 in
theorem m_moves (f : Fun) (o : Oup) (hok : Oup.ok o) (J : List Int) (seed left : Int) (C : Nat → Int) (w fr : Nat) (L : List Evt) (b a : Nat) (hM : ∀ i k, i < o.Edits.length → k < (o.Edits.getD i default).Moves.length → PlOk fr ((o.Edits.getD i default).Moves.getD k default).From ∧ PlOk fr ((o.Edits.getD i default).Moves.getD k default).To) :
    ACallM B.P 46 ⟨[.obj 1001 0, .i64 b, .i64 a], rnH f o J seed left C w fr L, .tup [], rnH f o J seed left (edA o b a C) w fr L⟩ := by
  have hlen := edits_len hok
  refine ACallM.enter B _ _ Try.func46 rfl rfl Try.ntmps46 Try.results46 rfl ?_ fun hreal => ?_
  · refine And.intro ?_ (And.intro ?_ ?_)
    all_goals repeat' (first | exact rfl | exact trivial | refine And.intro ?_ ?_)
  clear hreal
  repeat (first | refine AWp.seq ?_ | refine AWp.block ?_ | refine AWp.skip ?_)
  refine AWp.region ?_
  intro _
  repeat (first | refine AWp.seq ?_ | refine AWp.block ?_ | refine AWp.skip ?_)
  refine AWp.loop (fun i : Nat => ⟨[(0, .obj 1001 0), (1, .i64 b), (2, .i64 a), (14, roL 3 Edt.cells o.Edits), (15, .i64 o.Edits.length), (16, .i64 i)], rnH f o J seed left (edF o.Edits b a C i) w fr L⟩) (fun i => i ≤ o.Edits.length) (fun i => o.Edits.length - i) 0 (Nat.zero_le _) ?_ ?_
  · refine And.intro ?_ (And.intro rfl (And.intro ?_ (And.intro ⟨_, _, rfl, rfl, fun i hi => rfl⟩ (And.intro trivial (And.intro ⟨_, _, rfl, rfl, fun i hi => rfl⟩ (And.intro trivial trivial))))))
    all_goals repeat' (first | exact rfl | exact trivial | refine And.intro ?_ ?_)
  intro i hi
  repeat (first | refine AWp.seq ?_ | refine AWp.block ?_ | refine AWp.skip ?_)
  refine AWp.region ?_
  intro _
  repeat (first | refine AWp.seq ?_ | refine AWp.block ?_ | refine AWp.skip ?_)
  refine AWp.cond (And.intro (fun h1 => ?_) (fun h1 => ?_))
  · have hi' : i < o.Edits.length := Int.ofNat_lt.1 (of_decide_eq_true h1)
    have hml := moves_len hok hi'
    have hmx : (o.Edits.getD i default).Moves.length ≤ maxLen := by unfold maxLen; omega
    repeat (first | refine AWp.seq ?_ | refine AWp.block ?_ | refine AWp.skip ?_)
    refine AWp.region ?_
    refine And.intro (fun _ => And.intro (Int.natCast_nonneg _) (Int.ofNat_lt.2 hi')) ?_
    intro _
    refine AWp.freezeObj 7 rfl rfl ?_
    repeat (first | refine AWp.seq ?_ | refine AWp.block ?_ | refine AWp.skip ?_)
    refine AWp.region ?_
    repeat' refine And.intro ?_ ?_
    all_goals first | exact fun h => h | exact gT | exact gF | exact gN | exact gA | skip
    intro _
    repeat (first | refine AWp.seq ?_ | refine AWp.block ?_ | refine AWp.skip ?_)
    refine AWp.cond (And.intro (fun h2 => ?_) (fun h2 => ?_))
    · have e : edF o.Edits b a C (i + 1) = edF o.Edits b a C i := edF_no (by clear hml hmx; simp only [bif_if, Int.toNat_natCast] at h2; grind)
      refine AWp.exit ?_
      repeat (first | refine AWp.seq ?_ | refine AWp.block ?_ | refine AWp.skip ?_)
      refine AWp.region ?_
      intro _
      refine round_end (i + 1) hi' ?_ (by omega)
      rw [e]
      refine And.intro ?_ (And.intro rfl (And.intro ?_ (And.intro ⟨_, _, rfl, rfl, fun i hi => rfl⟩ (And.intro trivial (And.intro ⟨_, _, rfl, rfl, fun i hi => rfl⟩ (And.intro trivial trivial))))))
      all_goals repeat' (first | exact rfl | exact trivial | exact congrArg (fun z => some (AV.i64 z)) (wrap_succ hi' hlen) | refine And.intro ?_ ?_)
    have e : edF o.Edits b a C (i + 1) = mvF (o.Edits.getD i default) (edF o.Edits b a C i) (o.Edits.getD i default).Moves.length := edF_yes (by clear hml hmx; simp only [bif_if, Int.toNat_natCast] at h2; grind)
    repeat (first | refine AWp.seq ?_ | refine AWp.block ?_ | refine AWp.skip ?_)
    refine AWp.region ?_
    intro _
    repeat (first | refine AWp.seq ?_ | refine AWp.block ?_ | refine AWp.skip ?_)
    refine AWp.loop (fun k : Nat => ⟨[(0, .obj 1001 0), (1, .i64 b), (2, .i64 a), (14, roL 3 Edt.cells o.Edits), (15, .i64 o.Edits.length), (16, .i64 i), (31, roL 6 Mov.cells (o.Edits.getD i default).Moves), (32, .i64 (o.Edits.getD i default).Moves.length), (33, .i64 k)], rnH f o J seed left (mvF (o.Edits.getD i default) (edF o.Edits b a C i) k) w fr L⟩) (fun k => k ≤ (o.Edits.getD i default).Moves.length) (fun k => (o.Edits.getD i default).Moves.length - k) 0 (Nat.zero_le _) ?_ ?_
    · refine And.intro ?_ (And.intro rfl (And.intro ?_ (And.intro ⟨_, _, rfl, rfl, fun i hi => rfl⟩ (And.intro trivial (And.intro ⟨_, _, rfl, rfl, fun i hi => rfl⟩ (And.intro trivial trivial))))))
      all_goals repeat' (first | exact rfl | exact trivial | refine And.intro ?_ ?_)
    intro k hk
    repeat (first | refine AWp.seq ?_ | refine AWp.block ?_ | refine AWp.skip ?_)
    refine AWp.region ?_
    intro _
    repeat (first | refine AWp.seq ?_ | refine AWp.block ?_ | refine AWp.skip ?_)
    refine AWp.cond (And.intro (fun h3 => ?_) (fun h3 => ?_))
    · have hk' : k < (o.Edits.getD i default).Moves.length := Int.ofNat_lt.1 (of_decide_eq_true h3)
      obtain ⟨hF, hT⟩ := hM i k hi' hk'
      repeat (first | refine AWp.seq ?_ | refine AWp.block ?_ | refine AWp.skip ?_)
      refine AWp.region ?_
      refine And.intro (fun _ => And.intro (Int.natCast_nonneg _) (Int.ofNat_lt.2 hk')) ?_
      intro _
      refine AWp.freezeObj 9 rfl rfl ?_
      repeat (first | refine AWp.seq ?_ | refine AWp.block ?_ | refine AWp.skip ?_)
      refine AWp.mono (Q := fun x s => x = .normal ∧ Sub ⟨[(0, .obj 1001 0), (1, .i64 b), (2, .i64 a), (14, roL 3 Edt.cells o.Edits), (15, .i64 o.Edits.length), (16, .i64 i), (31, roL 6 Mov.cells (o.Edits.getD i default).Moves), (32, .i64 (o.Edits.getD i default).Moves.length), (33, .i64 k)], rnH f o J seed left (mvF (o.Edits.getD i default) (edF o.Edits b a C i) (k + 1)) w fr L⟩ s) ?_ ?_
      · rcases hF.kind with kF | kF <;> rcases hT.kind with kT | kT
        · refine AWp.quietP (.q 0 (.q 1 (.q 2 (.q 3 (.q 4 (.q 6 (.q 7 (.q 8 (.q 9 (.q 10 (.c 5 false (.c 11 true (.q 12 (.c 13 true (.q 14 (.c 15 true .fin .no)) .no)) .no) .no))))))))))) [0, 1, 2, 3, 4, 6, 7, 8, 9, 10, 12, 14] [] mixed (by kernel_rfl) ?_
          repeat' (first | exact trivial | refine And.intro ?_ ?_ | refine CallX.lend (m_atReg f o J seed left (mvF (o.Edits.getD i default) (edF o.Edits b a C i) k) w fr L (((o.Edits.getD i default).Moves.getD k default).From) kF (hF.reg kF).1 (hF.reg kF).2.1) [(1001, 1001), (1002, 1002), (1003, 1003)] rfl (And.intro rfl (And.intro rfl (And.intro rfl trivial))) rfl ?_ | refine CallX.lend (m_atReg f o J seed left (mvF (o.Edits.getD i default) (edF o.Edits b a C i) k) w fr L (((o.Edits.getD i default).Moves.getD k default).To) kT (hT.reg kT).1 (hT.reg kT).2.1) [(1001, 1001), (1002, 1002), (1003, 1003)] rfl (And.intro rfl (And.intro rfl (And.intro rfl trivial))) rfl ?_ | (refine chkI (ldC (f := f) (o := o) (J := J) (seed := seed) (left := left) (C := (mvF (o.Edits.getD i default) (edF o.Edits b a C i) k)) (w := w) (s := 1002) (sn := fr) (e := 1003) (en := L.length) ((hF.reg kF).2.2) rfl) ?_; rw [ldI (f := f) (o := o) (J := J) (seed := seed) (left := left) (C := (mvF (o.Edits.getD i default) (edF o.Edits b a C i) k)) (w := w) (s := 1002) (sn := fr) (e := 1003) (en := L.length) ((hF.reg kF).2.2)]; rotate_left 1; exact rfl) | refine chkI (stC (hT.reg kT).2.2) ?_ | fail)
          all_goals first | skip | skip
          intro _
          refine And.intro rfl (And.intro ?_ (And.intro (cl_reg (hT.reg kT).2.2 rfl) (And.intro ?_ (And.intro ⟨_, _, rfl, rfl, fun q hq => (rw_reg (hT.reg kT).2.2)⟩ (And.intro trivial (And.intro ⟨_, _, rfl, rfl, fun q hq => rfl⟩ (And.intro trivial trivial)))))))
          all_goals repeat' (first | exact rfl | exact trivial | refine And.intro ?_ ?_)
        · refine AWp.quietP (.q 0 (.q 1 (.q 2 (.q 3 (.q 4 (.q 6 (.q 7 (.q 8 (.q 9 (.q 10 (.c 5 false (.c 11 true (.q 12 (.c 13 true (.q 14 (.c 15 true .fin .no)) .no)) .no) .no))))))))))) [0, 1, 2, 3, 4, 6, 7, 8, 9, 10, 12, 14] [] mixed (by kernel_rfl) ?_
          repeat' (first | exact trivial | refine And.intro ?_ ?_ | refine CallX.lend (m_atReg f o J seed left (mvF (o.Edits.getD i default) (edF o.Edits b a C i) k) w fr L (((o.Edits.getD i default).Moves.getD k default).From) kF (hF.reg kF).1 (hF.reg kF).2.1) [(1001, 1001), (1002, 1002), (1003, 1003)] rfl (And.intro rfl (And.intro rfl (And.intro rfl trivial))) rfl ?_ | refine CallX.lend (m_atSlot f o J seed left (mvF (o.Edits.getD i default) (edF o.Edits b a C i) k) w fr L (((o.Edits.getD i default).Moves.getD k default).To) kT (hT.slot kT)) [(1001, 1001), (1002, 1002), (1003, 1003)] rfl (And.intro rfl (And.intro rfl (And.intro rfl trivial))) rfl ?_ | (refine chkI (ldC (f := f) (o := o) (J := J) (seed := seed) (left := left) (C := (mvF (o.Edits.getD i default) (edF o.Edits b a C i) k)) (w := w) (s := 1002) (sn := fr) (e := 1003) (en := L.length) ((hF.reg kF).2.2) rfl) ?_; rw [ldI (f := f) (o := o) (J := J) (seed := seed) (left := left) (C := (mvF (o.Edits.getD i default) (edF o.Edits b a C i) k)) (w := w) (s := 1002) (sn := fr) (e := 1003) (en := L.length) ((hF.reg kF).2.2)]; rotate_left 1; exact rfl) | fail)
          all_goals first | exact (by have := hT.slot kT; omega : (((o.Edits.getD i default).Moves.getD k default).To.N.toNat < fr)) | skip
          intro _
          refine And.intro rfl (And.intro ?_ (And.intro (cl_slot kT) (And.intro ?_ (And.intro ⟨_, _, rfl, rfl, fun q hq => (rw_slot kT rfl)⟩ (And.intro trivial (And.intro ⟨_, _, rfl, rfl, fun q hq => rfl⟩ (And.intro trivial trivial)))))))
          all_goals repeat' (first | exact rfl | exact trivial | refine And.intro ?_ ?_)
        · refine AWp.quietP (.q 0 (.q 1 (.q 2 (.q 3 (.q 4 (.q 6 (.q 7 (.q 8 (.q 9 (.q 10 (.c 5 false (.c 11 true (.q 12 (.c 13 true (.q 14 (.c 15 true .fin .no)) .no)) .no) .no))))))))))) [0, 1, 2, 3, 4, 6, 7, 8, 9, 10, 12, 14] [] mixed (by kernel_rfl) ?_
          repeat' (first | exact trivial | refine And.intro ?_ ?_ | refine CallX.lend (m_atSlot f o J seed left (mvF (o.Edits.getD i default) (edF o.Edits b a C i) k) w fr L (((o.Edits.getD i default).Moves.getD k default).From) kF (hF.slot kF)) [(1001, 1001), (1002, 1002), (1003, 1003)] rfl (And.intro rfl (And.intro rfl (And.intro rfl trivial))) rfl ?_ | refine CallX.lend (m_atReg f o J seed left (mvF (o.Edits.getD i default) (edF o.Edits b a C i) k) w fr L (((o.Edits.getD i default).Moves.getD k default).To) kT (hT.reg kT).1 (hT.reg kT).2.1) [(1001, 1001), (1002, 1002), (1003, 1003)] rfl (And.intro rfl (And.intro rfl (And.intro rfl trivial))) rfl ?_ | refine chkI (stC (hT.reg kT).2.2) ?_ | fail)
          all_goals first | exact fun _ => (by have := hF.slot kF; omega) | skip
          intro _
          refine And.intro rfl (And.intro ?_ (And.intro (cl_reg (hT.reg kT).2.2 (congrArg (mvF (o.Edits.getD i default) (edF o.Edits b a C i) k) (celF_slot kF).symm)) (And.intro ?_ (And.intro ⟨_, _, rfl, rfl, fun q hq => (rw_reg (hT.reg kT).2.2)⟩ (And.intro trivial (And.intro ⟨_, _, rfl, rfl, fun q hq => rfl⟩ (And.intro trivial trivial)))))))
          all_goals repeat' (first | exact rfl | exact trivial | refine And.intro ?_ ?_)
        · refine AWp.quietP (.q 0 (.q 1 (.q 2 (.q 3 (.q 4 (.q 6 (.q 7 (.q 8 (.q 9 (.q 10 (.c 5 false (.c 11 true (.q 12 (.c 13 true (.q 14 (.c 15 true .fin .no)) .no)) .no) .no))))))))))) [0, 1, 2, 3, 4, 6, 7, 8, 9, 10, 12, 14] [] mixed (by kernel_rfl) ?_
          repeat' (first | exact trivial | refine And.intro ?_ ?_ | refine CallX.lend (m_atSlot f o J seed left (mvF (o.Edits.getD i default) (edF o.Edits b a C i) k) w fr L (((o.Edits.getD i default).Moves.getD k default).From) kF (hF.slot kF)) [(1001, 1001), (1002, 1002), (1003, 1003)] rfl (And.intro rfl (And.intro rfl (And.intro rfl trivial))) rfl ?_ | refine CallX.lend (m_atSlot f o J seed left (mvF (o.Edits.getD i default) (edF o.Edits b a C i) k) w fr L (((o.Edits.getD i default).Moves.getD k default).To) kT (hT.slot kT)) [(1001, 1001), (1002, 1002), (1003, 1003)] rfl (And.intro rfl (And.intro rfl (And.intro rfl trivial))) rfl ?_ | fail)
          all_goals first | exact fun _ => (by have := hF.slot kF; omega) | exact (by have := hT.slot kT; omega : (((o.Edits.getD i default).Moves.getD k default).To.N.toNat < fr)) | skip
          intro _
          refine And.intro rfl (And.intro ?_ (And.intro (cl_slot kT) (And.intro ?_ (And.intro ⟨_, _, rfl, rfl, fun q hq => (rw_slot kT (congrArg (mvF (o.Edits.getD i default) (edF o.Edits b a C i) k) (celF_slot kF).symm))⟩ (And.intro trivial (And.intro ⟨_, _, rfl, rfl, fun q hq => rfl⟩ (And.intro trivial trivial)))))))
          all_goals repeat' (first | exact rfl | exact trivial | refine And.intro ?_ ?_)
      rintro _ _ ⟨rfl, hs⟩
      refine AWp.weaken hs ?_
      repeat (first | refine AWp.seq ?_ | refine AWp.block ?_ | refine AWp.skip ?_)
      refine AWp.region ?_
      intro _
      refine round_end (k + 1) hk' ?_ (by omega)
      refine And.intro ?_ (And.intro rfl (And.intro ?_ (And.intro ⟨_, _, rfl, rfl, fun i hi => rfl⟩ (And.intro trivial (And.intro ⟨_, _, rfl, rfl, fun i hi => rfl⟩ (And.intro trivial trivial))))))
      all_goals repeat' (first | exact rfl | exact trivial | exact congrArg (fun z => some (AV.i64 z)) (wrap_succ hk' hmx) | refine And.intro ?_ ?_)
    have hk3 : ¬ (k : Int) < (o.Edits.getD i default).Moves.length := of_decide_eq_false h3
    obtain rfl : k = (o.Edits.getD i default).Moves.length := by omega
    refine AWp.exit ?_
    repeat (first | refine AWp.seq ?_ | refine AWp.block ?_ | refine AWp.skip ?_)
    refine AWp.region ?_
    intro _
    refine round_end (i + 1) hi' ?_ (by omega)
    rw [e]
    refine And.intro ?_ (And.intro rfl (And.intro ?_ (And.intro ⟨_, _, rfl, rfl, fun i hi => rfl⟩ (And.intro trivial (And.intro ⟨_, _, rfl, rfl, fun i hi => rfl⟩ (And.intro trivial trivial))))))
    all_goals repeat' (first | exact rfl | exact trivial | exact congrArg (fun z => some (AV.i64 z)) (wrap_succ hi' hlen) | refine And.intro ?_ ?_)
  have hi3 : ¬ (i : Int) < o.Edits.length := of_decide_eq_false h1
  obtain rfl : i = o.Edits.length := by omega
  refine AWp.exit ?_
  refine ⟨Or.inr rfl, ?_⟩
  intro _
  refine And.intro rfl (And.intro trivial (And.intro rfl (And.intro ?_ (And.intro ⟨_, _, rfl, rfl, fun i hi => rfl⟩ (And.intro trivial (And.intro ⟨_, _, rfl, rfl, fun i hi => rfl⟩ (And.intro trivial trivial)))))))
  all_goals repeat' (first | exact rfl | exact trivial | refine And.intro ?_ ?_)
end Go.Proofs.Ytnbgpgbbfjaomaa

/- Contract of the runner's instr. Condition: a checked function, places that may be. -/
namespace Go.Proofs.Ytnbgpgbbfjaomaa
open Go Go.Abs Go.RowKit Go.Abs.Gra

/-- What the early operands' values are. -/
def v1F (x : Ins) (p : List Plc) (C : Nat → Int) (k q : Nat) : Int := if q < k ∧ (x.Operands.getD q default).Kind = 1 ∧ (x.Operands.getD q default).Late = false then C (celF (p.getD q default)) else 0
def v2F (x : Ins) (p : List Plc) (C C2 : Nat → Int) (k q : Nat) : Int := if q < k ∧ (x.Operands.getD q default).Kind = 1 ∧ (x.Operands.getD q default).Late = true then C2 (celF (p.getD q default)) else v1F x p C x.Operands.length q
section
variable {x : Ins} {p : List Plc} {C C2 : Nat → Int} {k q : Nat}
theorem v1F_zero : v1F x p C 0 q = 0 := if_neg (by omega)
theorem v2F_zero : v2F x p C C2 0 q = v1F x p C x.Operands.length q := if_neg (by omega)
theorem lt_ite (e : ¬ q = k) {c : Prop} [Decidable c] {a b : Int} : (if q < k + 1 ∧ c then a else b) = if q < k ∧ c then a else b := by
  by_cases g : q < k ∧ c
  · rw [if_pos g, if_pos ⟨by omega, g.2⟩]
  · rw [if_neg g, if_neg fun z => g ⟨by omega, z.2⟩]
theorem v1F_yes (h : (x.Operands.getD k default).Kind = 1 ∧ (x.Operands.getD k default).Late = false) {v : Int} (hv : v = C (celF (p.getD k default))) : intC (v1F x p C (k + 1) q) = if q = k then intC v else intC (v1F x p C k q) := by
  subst hv
  by_cases e : q = k
  · subst e; rw [if_pos rfl]; exact congrArg intC (if_pos ⟨by omega, h⟩)
  · rw [if_neg e]; exact congrArg intC (lt_ite e)
theorem v1F_no (h : ¬ ((x.Operands.getD k default).Kind = 1 ∧ (x.Operands.getD k default).Late = false)) : intC (v1F x p C (k + 1) q) = intC (v1F x p C k q) := by
  refine congrArg intC ?_
  by_cases e : q = k
  · subst e; unfold v1F; rw [if_neg fun z => h z.2, if_neg (by omega)]
  · exact lt_ite e
theorem v2F_yes (h : (x.Operands.getD k default).Kind = 1 ∧ (x.Operands.getD k default).Late = true) {v : Int} (hv : v = C2 (celF (p.getD k default))) : intC (v2F x p C C2 (k + 1) q) = if q = k then intC v else intC (v2F x p C C2 k q) := by
  subst hv
  by_cases e : q = k
  · subst e; rw [if_pos rfl]; exact congrArg intC (if_pos ⟨by omega, h⟩)
  · rw [if_neg e]; exact congrArg intC (lt_ite e)
theorem v2F_no (h : ¬ ((x.Operands.getD k default).Kind = 1 ∧ (x.Operands.getD k default).Late = true)) : intC (v2F x p C C2 (k + 1) q) = intC (v2F x p C C2 k q) := by
  refine congrArg intC ?_
  by_cases e : q = k
  · subst e; unfold v2F; rw [if_neg fun z => h z.2, if_neg (by omega)]
  · exact lt_ite e
theorem v2F_at (hk : k < x.Operands.length) (h : (x.Operands.getD k default).Kind = 1) : v2F x p C C2 (k + 1) k = if (x.Operands.getD k default).Late = true then C2 (celF (p.getD k default)) else C (celF (p.getD k default)) := by
  unfold v2F
  by_cases e : (x.Operands.getD k default).Late = true
  · rw [if_pos ⟨by omega, h, e⟩, if_pos e]
  · rw [if_neg fun z => e z.2.2, if_neg e]
    exact if_pos ⟨hk, h, by simpa using e⟩
end
theorem stO {off i : Nat} (ho : off = 7 + i) (hi : i < 22) : Nat.ble (off + 1) 33 = true := by rw [Nat.ble_eq]; omega
theorem cl_off {f : Fun} {o : Oup} {J : List Int} {seed left : Int} {C : Nat → Int} {w s sn e en : Nat} {off i : Nat} (ho : off = 7 + i) (hi : i < 22) {v : Int} : some (HO.cells ((rnL f o J seed left C w s sn e en).take off ++ [.i64 v] ++ (rnL f o J seed left C w s sn e en).drop (off + 1))) = some (rnmC f o J seed left (setC C i v) w s sn e en) := by
  subst ho; exact cl_reg hi rfl
set_option maxHeartbeats 8000000 in
theorem m_minstr (f : Fun) (hC : Chkd f) (o : Oup) (hok : Oup.ok o) (J : List Int) (hJ : J.length ≤ 64) (seed left : Int) (s : Box) (fr : Nat) (L : List Evt) (hL : L.length ≤ 100000) (b a : Nat) (hb : b < f.Blocks.length) (ha : a < (f.Blocks.getD b default).Instrs.length) (hb2 : b < o.Places.length) (ha2 : a < (o.Places.getD b default).length) (hpl : (plAt o b a).length = (insAt f b a).Operands.length) (hp : ∀ k, k < (insAt f b a).Operands.length → PlOk fr ((plAt o b a).getD k default)) (hsp : ∀ k, k < (insAt f b a).Spoils.length → (0 ≤ ((insAt f b a).Spoils.getD k default).Class ∧ ((insAt f b a).Spoils.getD k default).Class < 2) ∧ (0 ≤ ((insAt f b a).Spoils.getD k default).N ∧ ((insAt f b a).Spoils.getD k default).N < 11)) (hw : s.w ≤ 900000) :
    ACallM B.P 47 ⟨[.obj 1001 0, .i64 b, .i64 a], rnH f o J seed left s.C s.w fr L, .i64 (takesF seed (f.Blocks.getD b default) a (rdA f o J b a s)), [(1001, rnmC f o J seed left (inA f o J seed b a s).C (inA f o J seed b a s).w 1002 fr 225 (L.length + 1)), (1002, rowG fr (fun i => (inA f o J seed b a s).C (22 + i))), (225, rowE (L ++ [evA f o J seed b a s]))]⟩ := by
  have hz := hC.e.siz
  have hop : (insAt f b a).Operands.length ≤ 6 := hz.ops b a hb ha
  have hop' : ((f.Blocks.getD b default).Instrs.getD a default).Operands.length ≤ 6 := hop
  have hspl : (insAt f b a).Spoils.length ≤ 20 := hz.spo b a hb ha
  have hom : (insAt f b a).Operands.length ≤ maxLen := by unfold maxLen; omega
  have hsm : (insAt f b a).Spoils.length ≤ maxLen := by unfold maxLen; omega
  have hrl : (rdA f o J b a s).length ≤ (insAt f b a).Operands.length := rdM_len _
  have hLl : (L ++ [evA f o J seed b a s]).length = L.length + 1 := by simp
  refine ACallM.enter B _ _ Try.func47 rfl rfl Try.ntmps47 Try.results47 rfl ?_ fun hreal => ?_
  · refine And.intro ?_ (And.intro ?_ ?_)
    all_goals repeat' (first | exact rfl | exact trivial | refine And.intro ?_ ?_)
  clear hreal
  repeat (first | refine AWp.seq ?_ | refine AWp.block ?_ | refine AWp.skip ?_)
  refine AWp.region ?_
  intro _
  repeat (first | refine AWp.seq ?_ | refine AWp.block ?_ | refine AWp.skip ?_)
  refine AWp.quietP (.q 0 (.q 1 (.q 2 (.q 3 (.q 4 (.q 5 (.q 6 (.q 7 (.q 8 (.q 9 (.q 10 (.q 11 (.q 12 (.q 13 (.q 14 (.q 15 (.q 16 (.q 17 (.q 18 (.q 19 (.q 20 (.q 21 (.q 22 (.c 23 false (.c 24 false (.q 25 .fin) .no) .no)))))))))))))))))))))))) [0, 1, 2, 3, 4, 5, 6, 7, 8, 9, 10, 11, 12, 13, 14, 15, 16, 17, 18, 19, 20, 21, 22, 25] [1001, 1002, 1003] mixed (by kernel_rfl) ?_
  repeat' (first | exact trivial | refine And.intro ?_ ?_ | fail)
  all_goals first | exact fun _ => And.intro (Int.natCast_nonneg _) (Int.ofNat_lt.2 hb) | exact fun _ => And.intro (Int.natCast_nonneg _) (Int.ofNat_lt.2 ha) | exact fun _ => And.intro (Int.natCast_nonneg _) (Int.ofNat_lt.2 hb2) | exact fun _ => And.intro (Int.natCast_nonneg _) (Int.ofNat_lt.2 ha2) | skip
  intro _
  refine AWp.freezeObj 7 rfl rfl ?_
  repeat (first | refine AWp.seq ?_ | refine AWp.block ?_ | refine AWp.skip ?_)
  refine AWp.region ?_
  refine And.intro rfl (And.intro (Int.natCast_nonneg _) (And.intro (by simp only [Int.toNat_natCast]; omega) ?_))
  intro _
  repeat (first | refine AWp.seq ?_ | refine AWp.block ?_ | refine AWp.skip ?_)
  refine AWp.region ?_
  intro _
  repeat (first | refine AWp.seq ?_ | refine AWp.block ?_ | refine AWp.skip ?_)
  refine AWp.loop (fun i : Nat => ⟨[(0, .obj 1001 0), (1, .i64 b), (2, .i64 a), (7, .ptr (insAt f b a).cells), (8, roL 3 Plc.cells (plAt o b a)), (9, .sl 48 (insAt f b a).Operands.length), (50, roL 5 Opd.cells (insAt f b a).Operands), (51, .i64 (insAt f b a).Operands.length), (52, .i64 i)], rnH f o J seed left s.C s.w fr L ++ [(48, rowG (insAt f b a).Operands.length (v1F (insAt f b a) (plAt o b a) s.C i))]⟩) (fun i => i ≤ (insAt f b a).Operands.length) (fun i => (insAt f b a).Operands.length - i) 0 (Nat.zero_le _) ?_ ?_
  · refine And.intro ?_ (And.intro rfl (And.intro ?_ (And.intro ⟨_, _, rfl, rfl, fun q hq => rfl⟩ (And.intro trivial (And.intro ⟨_, _, rfl, rfl, fun q hq => rfl⟩ (And.intro trivial (And.intro ⟨_, _, rfl, rfl, fun q hq => congrArg intC v1F_zero⟩ (And.intro trivial trivial))))))))
    all_goals repeat' (first | exact rfl | exact trivial | refine And.intro ?_ ?_)
  intro i hi
  repeat (first | refine AWp.seq ?_ | refine AWp.block ?_ | refine AWp.skip ?_)
  refine AWp.region ?_
  intro _
  repeat (first | refine AWp.seq ?_ | refine AWp.block ?_ | refine AWp.skip ?_)
  refine AWp.cond (And.intro (fun h1 => ?_) (fun h1 => ?_))
  · have hi' : i < (insAt f b a).Operands.length := Int.ofNat_lt.1 (of_decide_eq_true h1)
    repeat (first | refine AWp.seq ?_ | refine AWp.block ?_ | refine AWp.skip ?_)
    refine AWp.region ?_
    refine And.intro (fun _ => And.intro (Int.natCast_nonneg _) (Int.ofNat_lt.2 hi')) ?_
    intro _
    refine AWp.freezeObj 11 rfl rfl ?_
    repeat (first | refine AWp.seq ?_ | refine AWp.block ?_ | refine AWp.skip ?_)
    refine AWp.region ?_
    repeat' refine And.intro ?_ ?_
    all_goals first | exact fun h => h | exact gT | exact gF | exact gN | exact gA | skip
    intro _
    repeat (first | refine AWp.seq ?_ | refine AWp.block ?_ | refine AWp.skip ?_)
    refine AWp.mono (Q := fun x t => x = .normal ∧ Sub ⟨[(0, .obj 1001 0), (1, .i64 b), (2, .i64 a), (7, .ptr (insAt f b a).cells), (8, roL 3 Plc.cells (plAt o b a)), (9, .sl 48 (insAt f b a).Operands.length), (50, roL 5 Opd.cells (insAt f b a).Operands), (51, .i64 (insAt f b a).Operands.length), (52, .i64 i)], rnH f o J seed left s.C s.w fr L ++ [(48, rowG (insAt f b a).Operands.length (v1F (insAt f b a) (plAt o b a) s.C (i + 1)))]⟩ t) ?_ ?_
    · repeat (first | refine AWp.seq ?_ | refine AWp.block ?_ | refine AWp.skip ?_)
      refine AWp.cond (And.intro (fun h2 => ?_) (fun h2 => ?_))
      · have hd : ((insAt f b a).Operands.getD i default).Kind = 1 ∧ ((insAt f b a).Operands.getD i default).Late = false := by (try simp only [bif_if, Int.toNat_natCast] at h2); grind
        have hP := hp i hi'
        rcases hP.kind with kP | kP
        · refine AWp.quietP (.q 0 (.q 1 (.q 2 (.q 3 (.q 4 (.q 5 (.q 6 (.q 7 (.q 8 (.c 9 false (.q 10 (.c 11 false (.q 12 (.c 13 true .fin .no)) .no)) .no)))))))))) [0, 1, 2, 3, 4, 5, 6, 7, 8, 10, 12] [] mixed (by kernel_rfl) ?_
          repeat' (first | exact trivial | refine And.intro ?_ ?_ | refine CallX.lend (m_atReg f o J seed left s.C s.w fr L ((plAt o b a).getD i default) kP (hP.reg kP).1 (hP.reg kP).2.1) [(1001, 1001), (1002, 1002), (1003, 1003)] rfl (And.intro rfl (And.intro rfl (And.intro rfl trivial))) rfl ?_ | (refine chkI (ldC (f := f) (o := o) (J := J) (seed := seed) (left := left) (C := s.C) (w := s.w) (s := 1002) (sn := fr) (e := 1003) (en := L.length) ((hP.reg kP).2.2) rfl) ?_; rw [ldI (f := f) (o := o) (J := J) (seed := seed) (left := left) (C := s.C) (w := s.w) (s := 1002) (sn := fr) (e := 1003) (en := L.length) ((hP.reg kP).2.2)]; rotate_left 1; exact rfl) | fail)
          all_goals first | exact fun _ => And.intro (Int.natCast_nonneg _) (Int.ofNat_lt.2 (by rw [hpl]; exact hi')) | exact fun _ => And.intro (Int.natCast_nonneg _) (Int.ofNat_lt.2 hi') | exact fun _ => hi' | exact hi' | skip
          intro _
          refine And.intro rfl (And.intro ?_ (And.intro rfl (And.intro ?_ (And.intro ⟨_, _, rfl, rfl, fun q hq => rfl⟩ (And.intro trivial (And.intro ⟨_, _, rfl, rfl, fun q hq => rfl⟩ (And.intro trivial (And.intro ⟨_, _, rfl, rfl, fun q hq => v1F_yes hd rfl⟩ (And.intro trivial trivial)))))))))
          all_goals repeat' (first | exact rfl | exact trivial | refine And.intro ?_ ?_)
        · refine AWp.quietP (.q 0 (.q 1 (.q 2 (.q 3 (.q 4 (.q 5 (.q 6 (.q 7 (.q 8 (.c 9 false (.q 10 (.c 11 false (.q 12 (.c 13 true .fin .no)) .no)) .no)))))))))) [0, 1, 2, 3, 4, 5, 6, 7, 8, 10, 12] [] mixed (by kernel_rfl) ?_
          repeat' (first | exact trivial | refine And.intro ?_ ?_ | refine CallX.lend (m_atSlot f o J seed left s.C s.w fr L ((plAt o b a).getD i default) kP (hP.slot kP)) [(1001, 1001), (1002, 1002), (1003, 1003)] rfl (And.intro rfl (And.intro rfl (And.intro rfl trivial))) rfl ?_ | fail)
          all_goals first | exact fun _ => And.intro (Int.natCast_nonneg _) (Int.ofNat_lt.2 (by rw [hpl]; exact hi')) | exact fun _ => And.intro (Int.natCast_nonneg _) (Int.ofNat_lt.2 hi') | exact fun _ => hi' | exact hi' | exact fun _ => (by have := hP.slot kP; omega) | skip
          intro _
          refine And.intro rfl (And.intro ?_ (And.intro rfl (And.intro ?_ (And.intro ⟨_, _, rfl, rfl, fun q hq => rfl⟩ (And.intro trivial (And.intro ⟨_, _, rfl, rfl, fun q hq => rfl⟩ (And.intro trivial (And.intro ⟨_, _, rfl, rfl, fun q hq => v1F_yes hd (congrArg s.C (celF_slot kP).symm)⟩ (And.intro trivial trivial)))))))))
          all_goals repeat' (first | exact rfl | exact trivial | refine And.intro ?_ ?_)
      · have hd : ¬ (((insAt f b a).Operands.getD i default).Kind = 1 ∧ ((insAt f b a).Operands.getD i default).Late = false) := by (try simp only [bif_if, Int.toNat_natCast] at h2); grind
        refine AWp.skip ?_
        refine And.intro rfl (And.intro ?_ (And.intro rfl (And.intro ?_ (And.intro ⟨_, _, rfl, rfl, fun q hq => rfl⟩ (And.intro trivial (And.intro ⟨_, _, rfl, rfl, fun q hq => rfl⟩ (And.intro trivial (And.intro ⟨_, _, rfl, rfl, fun q hq => v1F_no hd⟩ (And.intro trivial trivial)))))))))
        all_goals repeat' (first | exact rfl | exact trivial | refine And.intro ?_ ?_)
    rintro _ _ ⟨rfl, hs⟩
    refine AWp.weaken hs ?_
    repeat (first | refine AWp.seq ?_ | refine AWp.block ?_ | refine AWp.skip ?_)
    refine AWp.region ?_
    intro _
    refine round_end (i + 1) hi' ?_ (by omega)
    refine And.intro ?_ (And.intro rfl (And.intro ?_ (And.intro ⟨_, _, rfl, rfl, fun q hq => rfl⟩ (And.intro trivial (And.intro ⟨_, _, rfl, rfl, fun q hq => rfl⟩ (And.intro trivial (And.intro ⟨_, _, rfl, rfl, fun q hq => rfl⟩ (And.intro trivial trivial))))))))
    all_goals repeat' (first | exact rfl | exact trivial | exact congrArg (fun z => some (AV.i64 z)) (wrap_succ hi' hom) | refine And.intro ?_ ?_)
  have hi3 : ¬ (i : Int) < (insAt f b a).Operands.length := of_decide_eq_false h1
  obtain rfl : i = (insAt f b a).Operands.length := by omega
  clear hi hi3 h1
  refine AWp.exit ?_
  repeat (first | refine AWp.seq ?_ | refine AWp.block ?_ | refine AWp.skip ?_)
  refine AWp.region ?_
  intro _
  repeat (first | refine AWp.seq ?_ | refine AWp.block ?_ | refine AWp.skip ?_)
  refine AWp.loop (fun i : Nat => ⟨[(0, .obj 1001 0), (1, .i64 b), (2, .i64 a), (7, .ptr (insAt f b a).cells), (8, roL 3 Plc.cells (plAt o b a)), (9, .sl 48 (insAt f b a).Operands.length), (80, roL 5 Opd.cells (insAt f b a).Operands), (81, .i64 (insAt f b a).Operands.length), (82, .i64 i)], rnH f o J seed left (dwF J (insAt f b a) (plAt o b a) s i).C (dwF J (insAt f b a) (plAt o b a) s i).w fr L ++ [(48, rowG (insAt f b a).Operands.length (v1F (insAt f b a) (plAt o b a) s.C (insAt f b a).Operands.length))]⟩) (fun i => i ≤ (insAt f b a).Operands.length) (fun i => (insAt f b a).Operands.length - i) 0 (Nat.zero_le _) ?_ ?_
  · refine And.intro ?_ (And.intro rfl (And.intro ?_ (And.intro ⟨_, _, rfl, rfl, fun q hq => rfl⟩ (And.intro trivial (And.intro ⟨_, _, rfl, rfl, fun q hq => rfl⟩ (And.intro trivial (And.intro ⟨_, _, rfl, rfl, fun q hq => rfl⟩ (And.intro trivial trivial))))))))
    all_goals repeat' (first | exact rfl | exact trivial | refine And.intro ?_ ?_)
  intro i hi
  repeat (first | refine AWp.seq ?_ | refine AWp.block ?_ | refine AWp.skip ?_)
  refine AWp.region ?_
  intro _
  repeat (first | refine AWp.seq ?_ | refine AWp.block ?_ | refine AWp.skip ?_)
  refine AWp.cond (And.intro (fun h1 => ?_) (fun h1 => ?_))
  · have hi' : i < (insAt f b a).Operands.length := Int.ofNat_lt.1 (of_decide_eq_true h1)
    have hwi := dwF_w (J := J) (x := insAt f b a) (p := plAt o b a) (s := s) i
    repeat (first | refine AWp.seq ?_ | refine AWp.block ?_ | refine AWp.skip ?_)
    refine AWp.region ?_
    refine And.intro (fun _ => And.intro (Int.natCast_nonneg _) (Int.ofNat_lt.2 hi')) ?_
    intro _
    refine AWp.freezeObj 13 rfl rfl ?_
    repeat (first | refine AWp.seq ?_ | refine AWp.block ?_ | refine AWp.skip ?_)
    refine AWp.region ?_
    repeat' refine And.intro ?_ ?_
    all_goals first | exact fun h => h | exact gT | exact gF | exact gN | exact gA | skip
    intro _
    repeat (first | refine AWp.seq ?_ | refine AWp.block ?_ | refine AWp.skip ?_)
    refine AWp.mono (Q := fun x t => x = .normal ∧ Sub ⟨[(0, .obj 1001 0), (1, .i64 b), (2, .i64 a), (7, .ptr (insAt f b a).cells), (8, roL 3 Plc.cells (plAt o b a)), (9, .sl 48 (insAt f b a).Operands.length), (80, roL 5 Opd.cells (insAt f b a).Operands), (81, .i64 (insAt f b a).Operands.length), (82, .i64 i)], rnH f o J seed left (dwF J (insAt f b a) (plAt o b a) s (i + 1)).C (dwF J (insAt f b a) (plAt o b a) s (i + 1)).w fr L ++ [(48, rowG (insAt f b a).Operands.length (v1F (insAt f b a) (plAt o b a) s.C (insAt f b a).Operands.length))]⟩ t) ?_ ?_
    · repeat (first | refine AWp.seq ?_ | refine AWp.block ?_ | refine AWp.skip ?_)
      refine AWp.cond (And.intro (fun h2 => ?_) (fun h2 => ?_))
      · have hd : ((insAt f b a).Operands.getD i default).Kind = 2 ∧ ((insAt f b a).Operands.getD i default).Late = false := by (try simp only [bif_if, Int.toNat_natCast] at h2); grind
        have hP := hp i hi'
        rw [dwF_yes hd]
        rcases hP.kind with kP | kP
        · refine AWp.quietP (.q 0 (.q 1 (.q 2 (.q 3 (.q 4 (.q 5 (.q 6 (.q 8 (.q 9 (.q 10 (.c 7 false (.c 11 true (.q 12 (.c 13 true .fin .no)) .no) .no))))))))))) [0, 1, 2, 3, 4, 5, 6, 8, 9, 10, 12] [] mixed (by kernel_rfl) ?_
          repeat' (first | exact trivial | refine And.intro ?_ ?_ | refine CallX.lend (m_atReg f o J seed left (dwF J (insAt f b a) (plAt o b a) s i).C (dwF J (insAt f b a) (plAt o b a) s i).w fr L ((plAt o b a).getD i default) kP (hP.reg kP).1 (hP.reg kP).2.1) [(1001, 1001), (1002, 1002), (1003, 1003)] rfl (And.intro rfl (And.intro rfl (And.intro rfl trivial))) rfl ?_ | refine CallX.lend (m_atReg f o J seed left (dwF J (insAt f b a) (plAt o b a) s i).C ((dwF J (insAt f b a) (plAt o b a) s i).w + 1) fr L ((plAt o b a).getD i default) kP (hP.reg kP).1 (hP.reg kP).2.1) [(1001, 1001), (1002, 1002), (1003, 1003)] rfl (And.intro rfl (And.intro rfl (And.intro rfl trivial))) rfl ?_ | refine CallX.lend (m_spoilt f o J hJ seed left (dwF J (insAt f b a) (plAt o b a) s i).C (dwF J (insAt f b a) (plAt o b a) s i).w fr (by omega) L) [(1001, 1001), (1002, 1002), (1003, 1003)] rfl (And.intro rfl (And.intro rfl (And.intro rfl trivial))) rfl ?_ | refine chkI (stC (hP.reg kP).2.2) ?_ | fail)
          all_goals first | exact fun _ => And.intro (Int.natCast_nonneg _) (Int.ofNat_lt.2 (by rw [hpl]; exact hi')) | skip
          all_goals intro _
          all_goals refine And.intro rfl (And.intro ?_ (And.intro (cl_reg (hP.reg kP).2.2 rfl) (And.intro ?_ (And.intro ⟨_, _, rfl, rfl, fun q hq => rw_reg (hP.reg kP).2.2⟩ (And.intro trivial (And.intro ⟨_, _, rfl, rfl, fun q hq => rfl⟩ (And.intro trivial (And.intro ⟨_, _, rfl, rfl, fun q hq => rfl⟩ (And.intro trivial trivial)))))))))
          all_goals repeat' (first | exact rfl | exact trivial | refine And.intro ?_ ?_)
        · refine AWp.quietP (.q 0 (.q 1 (.q 2 (.q 3 (.q 4 (.q 5 (.q 6 (.q 8 (.q 9 (.q 10 (.c 7 false (.c 11 true (.q 12 (.c 13 true .fin .no)) .no) .no))))))))))) [0, 1, 2, 3, 4, 5, 6, 8, 9, 10, 12] [] mixed (by kernel_rfl) ?_
          repeat' (first | exact trivial | refine And.intro ?_ ?_ | refine CallX.lend (m_atSlot f o J seed left (dwF J (insAt f b a) (plAt o b a) s i).C (dwF J (insAt f b a) (plAt o b a) s i).w fr L ((plAt o b a).getD i default) kP (hP.slot kP)) [(1001, 1001), (1002, 1002), (1003, 1003)] rfl (And.intro rfl (And.intro rfl (And.intro rfl trivial))) rfl ?_ | refine CallX.lend (m_atSlot f o J seed left (dwF J (insAt f b a) (plAt o b a) s i).C ((dwF J (insAt f b a) (plAt o b a) s i).w + 1) fr L ((plAt o b a).getD i default) kP (hP.slot kP)) [(1001, 1001), (1002, 1002), (1003, 1003)] rfl (And.intro rfl (And.intro rfl (And.intro rfl trivial))) rfl ?_ | refine CallX.lend (m_spoilt f o J hJ seed left (dwF J (insAt f b a) (plAt o b a) s i).C (dwF J (insAt f b a) (plAt o b a) s i).w fr (by omega) L) [(1001, 1001), (1002, 1002), (1003, 1003)] rfl (And.intro rfl (And.intro rfl (And.intro rfl trivial))) rfl ?_ | fail)
          all_goals first | exact fun _ => And.intro (Int.natCast_nonneg _) (Int.ofNat_lt.2 (by rw [hpl]; exact hi')) | exact (by have := hP.slot kP; omega : (((plAt o b a).getD i default).N.toNat < fr)) | skip
          all_goals intro _
          all_goals refine And.intro rfl (And.intro ?_ (And.intro (cl_slot kP) (And.intro ?_ (And.intro ⟨_, _, rfl, rfl, fun q hq => rw_slot kP rfl⟩ (And.intro trivial (And.intro ⟨_, _, rfl, rfl, fun q hq => rfl⟩ (And.intro trivial (And.intro ⟨_, _, rfl, rfl, fun q hq => rfl⟩ (And.intro trivial trivial)))))))))
          all_goals repeat' (first | exact rfl | exact trivial | refine And.intro ?_ ?_)
      · have hd : ¬ (((insAt f b a).Operands.getD i default).Kind = 2 ∧ ((insAt f b a).Operands.getD i default).Late = false) := by (try simp only [bif_if, Int.toNat_natCast] at h2); grind
        rw [dwF_no hd]
        refine AWp.skip ?_
        refine And.intro rfl (And.intro ?_ (And.intro rfl (And.intro ?_ (And.intro ⟨_, _, rfl, rfl, fun q hq => rfl⟩ (And.intro trivial (And.intro ⟨_, _, rfl, rfl, fun q hq => rfl⟩ (And.intro trivial (And.intro ⟨_, _, rfl, rfl, fun q hq => rfl⟩ (And.intro trivial trivial)))))))))
        all_goals repeat' (first | exact rfl | exact trivial | refine And.intro ?_ ?_)
    rintro _ _ ⟨rfl, hs⟩
    refine AWp.weaken hs ?_
    repeat (first | refine AWp.seq ?_ | refine AWp.block ?_ | refine AWp.skip ?_)
    refine AWp.region ?_
    intro _
    refine round_end (i + 1) hi' ?_ (by omega)
    refine And.intro ?_ (And.intro rfl (And.intro ?_ (And.intro ⟨_, _, rfl, rfl, fun q hq => rfl⟩ (And.intro trivial (And.intro ⟨_, _, rfl, rfl, fun q hq => rfl⟩ (And.intro trivial (And.intro ⟨_, _, rfl, rfl, fun q hq => rfl⟩ (And.intro trivial trivial))))))))
    all_goals repeat' (first | exact rfl | exact trivial | exact congrArg (fun z => some (AV.i64 z)) (wrap_succ hi' hom) | refine And.intro ?_ ?_)
  have hi3 : ¬ (i : Int) < (insAt f b a).Operands.length := of_decide_eq_false h1
  obtain rfl : i = (insAt f b a).Operands.length := by omega
  clear hi hi3 h1
  refine AWp.exit ?_
  have hw2 := dwF_w (J := J) (x := insAt f b a) (p := plAt o b a) (s := s) (insAt f b a).Operands.length
  repeat (first | refine AWp.seq ?_ | refine AWp.block ?_ | refine AWp.skip ?_)
  refine AWp.region ?_
  intro _
  repeat (first | refine AWp.seq ?_ | refine AWp.block ?_ | refine AWp.skip ?_)
  refine AWp.loop (fun i : Nat => ⟨[(0, .obj 1001 0), (1, .i64 b), (2, .i64 a), (7, .ptr (insAt f b a).cells), (8, roL 3 Plc.cells (plAt o b a)), (9, .sl 48 (insAt f b a).Operands.length), (110, roL 2 Rg.cells (insAt f b a).Spoils), (111, .i64 (insAt f b a).Spoils.length), (112, .i64 i)], rnH f o J seed left (spF J (insAt f b a).Spoils (dwF J (insAt f b a) (plAt o b a) s (insAt f b a).Operands.length) i).C (spF J (insAt f b a).Spoils (dwF J (insAt f b a) (plAt o b a) s (insAt f b a).Operands.length) i).w fr L ++ [(48, rowG (insAt f b a).Operands.length (v1F (insAt f b a) (plAt o b a) s.C (insAt f b a).Operands.length))]⟩) (fun i => i ≤ (insAt f b a).Spoils.length) (fun i => (insAt f b a).Spoils.length - i) 0 (Nat.zero_le _) ?_ ?_
  · refine And.intro ?_ (And.intro rfl (And.intro ?_ (And.intro ⟨_, _, rfl, rfl, fun q hq => rfl⟩ (And.intro trivial (And.intro ⟨_, _, rfl, rfl, fun q hq => rfl⟩ (And.intro trivial (And.intro ⟨_, _, rfl, rfl, fun q hq => rfl⟩ (And.intro trivial trivial))))))))
    all_goals repeat' (first | exact rfl | exact trivial | refine And.intro ?_ ?_)
  intro i hi
  repeat (first | refine AWp.seq ?_ | refine AWp.block ?_ | refine AWp.skip ?_)
  refine AWp.region ?_
  intro _
  repeat (first | refine AWp.seq ?_ | refine AWp.block ?_ | refine AWp.skip ?_)
  refine AWp.cond (And.intro (fun h1 => ?_) (fun h1 => ?_))
  · have hi' : i < (insAt f b a).Spoils.length := Int.ofNat_lt.1 (of_decide_eq_true h1)
    have hwi := spF_w (J := J) (l := (insAt f b a).Spoils) (s := (dwF J (insAt f b a) (plAt o b a) s (insAt f b a).Operands.length)) i
    obtain ⟨hc1, hc2⟩ := hsp i hi'
    repeat (first | refine AWp.seq ?_ | refine AWp.block ?_ | refine AWp.skip ?_)
    refine AWp.region ?_
    refine And.intro (fun _ => And.intro (Int.natCast_nonneg _) (Int.ofNat_lt.2 hi')) ?_
    intro _
    refine AWp.freezeObj 15 rfl rfl ?_
    repeat (first | refine AWp.seq ?_ | refine AWp.block ?_ | refine AWp.skip ?_)
    refine AWp.quietP (.q 0 (.q 1 (.q 2 (.q 3 (.q 4 (.q 5 (.q 6 (.q 7 (.q 9 (.q 10 (.q 11 (.q 12 (.c 8 false (.q 13 (.c 14 true .fin .no)) .no))))))))))))) [0, 1, 2, 3, 4, 5, 6, 7, 9, 10, 11, 12, 13] [] mixed (by kernel_rfl) ?_
    repeat' (first | exact trivial | refine And.intro ?_ ?_ | refine CallX.lend (m_spoilt f o J hJ seed left (spF J (insAt f b a).Spoils (dwF J (insAt f b a) (plAt o b a) s (insAt f b a).Operands.length) i).C (spF J (insAt f b a).Spoils (dwF J (insAt f b a) (plAt o b a) s (insAt f b a).Operands.length) i).w fr (by omega) L) [(1001, 1001), (1002, 1002), (1003, 1003)] rfl (And.intro rfl (And.intro rfl (And.intro rfl trivial))) rfl ?_ | refine chkI (stO (off := 0 + 7 + 0 + ((insAt f b a).Spoils.getD i default).Class.toNat * 11 + ((insAt f b a).Spoils.getD i default).N.toNat * 1) (i := 11 * ((insAt f b a).Spoils.getD i default).Class.toNat + ((insAt f b a).Spoils.getD i default).N.toNat) (by omega) (by omega)) ?_ | fail)
    all_goals first | exact fun _ => hc1 | exact fun _ => hc2 | skip
    intro _
    repeat (first | refine AWp.seq ?_ | refine AWp.block ?_ | refine AWp.skip ?_)
    refine AWp.region ?_
    intro _
    refine round_end (i + 1) hi' ?_ (by omega)
    refine And.intro ?_ (And.intro (cl_off (i := 11 * ((insAt f b a).Spoils.getD i default).Class.toNat + ((insAt f b a).Spoils.getD i default).N.toNat) (by simp only [Int.toNat_natCast]; omega) (by omega)) (And.intro ?_ (And.intro ⟨_, _, rfl, rfl, fun q hq => rw_reg (by omega)⟩ (And.intro trivial (And.intro ⟨_, _, rfl, rfl, fun q hq => rfl⟩ (And.intro trivial (And.intro ⟨_, _, rfl, rfl, fun q hq => rfl⟩ (And.intro trivial trivial))))))))
    all_goals repeat' (first | exact rfl | exact trivial | exact congrArg (fun z => some (AV.i64 z)) (wrap_succ hi' hsm) | refine And.intro ?_ ?_)
  have hi3 : ¬ (i : Int) < (insAt f b a).Spoils.length := of_decide_eq_false h1
  obtain rfl : i = (insAt f b a).Spoils.length := by omega
  clear hi hi3 h1
  refine AWp.exit ?_
  have hw3 := spF_w (J := J) (l := (insAt f b a).Spoils) (s := (dwF J (insAt f b a) (plAt o b a) s (insAt f b a).Operands.length)) (insAt f b a).Spoils.length
  repeat (first | refine AWp.seq ?_ | refine AWp.block ?_ | refine AWp.skip ?_)
  refine AWp.region ?_
  intro _
  refine AWp.adopt 16 60 3 1 rfl rfl rfl ?_
  repeat (first | refine AWp.seq ?_ | refine AWp.block ?_ | refine AWp.skip ?_)
  refine AWp.region ?_
  intro _
  repeat (first | refine AWp.seq ?_ | refine AWp.block ?_ | refine AWp.skip ?_)
  refine AWp.loop (fun i : Nat => ⟨[(0, .obj 1001 0), (1, .i64 b), (2, .i64 a), (7, .ptr (insAt f b a).cells), (8, roL 3 Plc.cells (plAt o b a)), (9, .sl 48 (insAt f b a).Operands.length), (16, .sl 60 (rdM s.C (spA f o J b a s).C (insAt f b a) (plAt o b a) i).length), (132, roL 5 Opd.cells (insAt f b a).Operands), (133, .i64 (insAt f b a).Operands.length), (134, .i64 i)], rnH f o J seed left (spA f o J b a s).C (spA f o J b a s).w fr L ++ [(48, rowG (insAt f b a).Operands.length (v2F (insAt f b a) (plAt o b a) s.C (spA f o J b a s).C i)), (60, rowG (rdM s.C (spA f o J b a s).C (insAt f b a) (plAt o b a) i).length (fun q => (rdM s.C (spA f o J b a s).C (insAt f b a) (plAt o b a) i).getD q default))]⟩) (fun i => i ≤ (insAt f b a).Operands.length) (fun i => (insAt f b a).Operands.length - i) 0 (Nat.zero_le _) ?_ ?_
  · refine And.intro ?_ (And.intro rfl (And.intro ?_ (And.intro ⟨_, _, rfl, rfl, fun q hq => rfl⟩ (And.intro trivial (And.intro ⟨_, _, rfl, rfl, fun q hq => rfl⟩ (And.intro trivial (And.intro ⟨_, _, rfl, rfl, fun q hq => congrArg intC v2F_zero⟩ (And.intro trivial (And.intro ⟨_, _, rfl, rfl, fun q hq => absurd hq (Nat.not_lt_zero _)⟩ (And.intro trivial trivial))))))))))
    all_goals repeat' (first | exact rfl | exact trivial | refine And.intro ?_ ?_)
  intro i hi
  repeat (first | refine AWp.seq ?_ | refine AWp.block ?_ | refine AWp.skip ?_)
  refine AWp.region ?_
  intro _
  repeat (first | refine AWp.seq ?_ | refine AWp.block ?_ | refine AWp.skip ?_)
  refine AWp.cond (And.intro (fun h1 => ?_) (fun h1 => ?_))
  · have hi' : i < (insAt f b a).Operands.length := Int.ofNat_lt.1 (of_decide_eq_true h1)
    have hrm := rdM_len (C0 := s.C) (C2 := (spA f o J b a s).C) (x := insAt f b a) (p := plAt o b a) i
    repeat (first | refine AWp.seq ?_ | refine AWp.block ?_ | refine AWp.skip ?_)
    refine AWp.region ?_
    refine And.intro (fun _ => And.intro (Int.natCast_nonneg _) (Int.ofNat_lt.2 hi')) ?_
    intro _
    refine AWp.freezeObj 18 rfl rfl ?_
    repeat (first | refine AWp.seq ?_ | refine AWp.block ?_ | refine AWp.skip ?_)
    refine AWp.region ?_
    repeat' refine And.intro ?_ ?_
    all_goals first | exact fun h => h | exact gT | exact gF | exact gN | exact gA | skip
    intro _
    repeat (first | refine AWp.seq ?_ | refine AWp.block ?_ | refine AWp.skip ?_)
    refine AWp.mono (Q := fun x t => x = .normal ∧ Sub ⟨[(0, .obj 1001 0), (1, .i64 b), (2, .i64 a), (7, .ptr (insAt f b a).cells), (17, .i64 i), (18, .ptr ((insAt f b a).Operands.getD i default).cells), (8, roL 3 Plc.cells (plAt o b a)), (9, .sl 48 (insAt f b a).Operands.length), (16, .sl 60 (rdM s.C (spA f o J b a s).C (insAt f b a) (plAt o b a) i).length), (132, roL 5 Opd.cells (insAt f b a).Operands), (133, .i64 (insAt f b a).Operands.length), (134, .i64 i)], rnH f o J seed left (spA f o J b a s).C (spA f o J b a s).w fr L ++ [(48, rowG (insAt f b a).Operands.length (v2F (insAt f b a) (plAt o b a) s.C (spA f o J b a s).C (i + 1))), (60, rowG (rdM s.C (spA f o J b a s).C (insAt f b a) (plAt o b a) i).length (fun q => (rdM s.C (spA f o J b a s).C (insAt f b a) (plAt o b a) i).getD q default))]⟩ t) ?_ ?_
    · repeat (first | refine AWp.seq ?_ | refine AWp.block ?_ | refine AWp.skip ?_)
      refine AWp.cond (And.intro (fun h2 => ?_) (fun h2 => ?_))
      · have hd : ((insAt f b a).Operands.getD i default).Kind = 1 ∧ ((insAt f b a).Operands.getD i default).Late = true := by (try simp only [bif_if, Int.toNat_natCast] at h2); grind
        have hP := hp i hi'
        rcases hP.kind with kP | kP
        · refine AWp.quietP (.q 0 (.q 1 (.q 2 (.q 3 (.q 4 (.q 5 (.q 6 (.q 7 (.q 8 (.c 9 false (.q 10 (.c 11 false (.q 12 (.c 13 true .fin .no)) .no)) .no)))))))))) [0, 1, 2, 3, 4, 5, 6, 7, 8, 10, 12] [] mixed (by kernel_rfl) ?_
          repeat' (first | exact trivial | refine And.intro ?_ ?_ | refine CallX.lend (m_atReg f o J seed left (spA f o J b a s).C (spA f o J b a s).w fr L ((plAt o b a).getD i default) kP (hP.reg kP).1 (hP.reg kP).2.1) [(1001, 1001), (1002, 1002), (1003, 1003)] rfl (And.intro rfl (And.intro rfl (And.intro rfl trivial))) rfl ?_ | (refine chkI (ldC (f := f) (o := o) (J := J) (seed := seed) (left := left) (C := (spA f o J b a s).C) (w := (spA f o J b a s).w) (s := 1002) (sn := fr) (e := 1003) (en := L.length) ((hP.reg kP).2.2) rfl) ?_; rw [ldI (f := f) (o := o) (J := J) (seed := seed) (left := left) (C := (spA f o J b a s).C) (w := (spA f o J b a s).w) (s := 1002) (sn := fr) (e := 1003) (en := L.length) ((hP.reg kP).2.2)]; rotate_left 1; exact rfl) | fail)
          all_goals first | exact fun _ => And.intro (Int.natCast_nonneg _) (Int.ofNat_lt.2 (by rw [hpl]; exact hi')) | exact fun _ => And.intro (Int.natCast_nonneg _) (Int.ofNat_lt.2 hi') | exact fun _ => hi' | exact hi' | skip
          intro _
          refine And.intro rfl (And.intro ?_ (And.intro rfl (And.intro ?_ (And.intro ⟨_, _, rfl, rfl, fun q hq => rfl⟩ (And.intro trivial (And.intro ⟨_, _, rfl, rfl, fun q hq => rfl⟩ (And.intro trivial (And.intro ⟨_, _, rfl, rfl, fun q hq => v2F_yes hd rfl⟩ (And.intro trivial (And.intro ⟨_, _, rfl, rfl, fun q hq => rfl⟩ (And.intro trivial trivial)))))))))))
          all_goals repeat' (first | exact rfl | exact trivial | refine And.intro ?_ ?_)
        · refine AWp.quietP (.q 0 (.q 1 (.q 2 (.q 3 (.q 4 (.q 5 (.q 6 (.q 7 (.q 8 (.c 9 false (.q 10 (.c 11 false (.q 12 (.c 13 true .fin .no)) .no)) .no)))))))))) [0, 1, 2, 3, 4, 5, 6, 7, 8, 10, 12] [] mixed (by kernel_rfl) ?_
          repeat' (first | exact trivial | refine And.intro ?_ ?_ | refine CallX.lend (m_atSlot f o J seed left (spA f o J b a s).C (spA f o J b a s).w fr L ((plAt o b a).getD i default) kP (hP.slot kP)) [(1001, 1001), (1002, 1002), (1003, 1003)] rfl (And.intro rfl (And.intro rfl (And.intro rfl trivial))) rfl ?_ | fail)
          all_goals first | exact fun _ => And.intro (Int.natCast_nonneg _) (Int.ofNat_lt.2 (by rw [hpl]; exact hi')) | exact fun _ => And.intro (Int.natCast_nonneg _) (Int.ofNat_lt.2 hi') | exact fun _ => hi' | exact hi' | exact fun _ => (by have := hP.slot kP; omega) | skip
          intro _
          refine And.intro rfl (And.intro ?_ (And.intro rfl (And.intro ?_ (And.intro ⟨_, _, rfl, rfl, fun q hq => rfl⟩ (And.intro trivial (And.intro ⟨_, _, rfl, rfl, fun q hq => rfl⟩ (And.intro trivial (And.intro ⟨_, _, rfl, rfl, fun q hq => v2F_yes hd (congrArg (spA f o J b a s).C (celF_slot kP).symm)⟩ (And.intro trivial (And.intro ⟨_, _, rfl, rfl, fun q hq => rfl⟩ (And.intro trivial trivial)))))))))))
          all_goals repeat' (first | exact rfl | exact trivial | refine And.intro ?_ ?_)
      · have hd : ¬ (((insAt f b a).Operands.getD i default).Kind = 1 ∧ ((insAt f b a).Operands.getD i default).Late = true) := by (try simp only [bif_if, Int.toNat_natCast] at h2); grind
        refine AWp.skip ?_
        refine And.intro rfl (And.intro ?_ (And.intro rfl (And.intro ?_ (And.intro ⟨_, _, rfl, rfl, fun q hq => rfl⟩ (And.intro trivial (And.intro ⟨_, _, rfl, rfl, fun q hq => rfl⟩ (And.intro trivial (And.intro ⟨_, _, rfl, rfl, fun q hq => v2F_no hd⟩ (And.intro trivial (And.intro ⟨_, _, rfl, rfl, fun q hq => rfl⟩ (And.intro trivial trivial)))))))))))
        all_goals repeat' (first | exact rfl | exact trivial | refine And.intro ?_ ?_)
    rintro _ _ ⟨rfl, hs⟩
    refine AWp.weaken hs ?_
    repeat (first | refine AWp.seq ?_ | refine AWp.block ?_ | refine AWp.skip ?_)
    refine AWp.region ?_
    intro _
    repeat (first | refine AWp.seq ?_ | refine AWp.block ?_ | refine AWp.skip ?_)
    refine AWp.cond (And.intro (fun h3 => ?_) (fun h3 => ?_))
    · have hd : ((insAt f b a).Operands.getD i default).Kind = 1 := by simpa using h3
      have hS := rdM_yes (C0 := s.C) (C2 := (spA f o J b a s).C) (x := insAt f b a) (p := plAt o b a) hd
      have hSl : (rdM s.C (spA f o J b a s).C (insAt f b a) (plAt o b a) (i + 1)).length = (rdM s.C (spA f o J b a s).C (insAt f b a) (plAt o b a) i).length + 1 := by rw [hS]; simp
      have hv := v2F_at (p := plAt o b a) (C := s.C) (C2 := (spA f o J b a s).C) hi' hd
      repeat (first | refine AWp.seq ?_ | refine AWp.block ?_ | refine AWp.skip ?_)
      refine AWp.region ?_
      refine And.intro (fun _ => And.intro (Int.natCast_nonneg _) (Int.ofNat_lt.2 hi')) ?_
      refine And.intro (fun _ => hi') ?_
      refine And.intro (Nat.le_refl _) (And.intro (fun q hq => ?_) (And.intro rfl (And.intro (by omega) ?_)))
      · have e : q = 0 := by omega
        subst e; rfl
      intro _
      refine AWp.rename 168 60 rfl rfl ?_
      repeat (first | refine AWp.seq ?_ | refine AWp.block ?_ | refine AWp.skip ?_)
      refine AWp.region ?_
      intro _
      refine round_end (i + 1) hi' ?_ (by omega)
      refine And.intro ?_ (And.intro rfl (And.intro ?_ (And.intro ⟨_, _, rfl, rfl, fun q hq => rfl⟩ (And.intro trivial (And.intro ⟨_, _, rfl, rfl, fun q hq => rfl⟩ (And.intro trivial (And.intro ⟨_, _, rfl, rfl, fun q hq => rfl⟩ (And.intro trivial (And.intro ⟨_, _, rfl, hSl.symm, fun q hq => ?_⟩ (And.intro trivial trivial))))))))))
      · repeat' (first | exact rfl | exact trivial | exact congrArg (fun n => some (AV.sl 60 n)) hSl.symm | exact congrArg (fun z => some (AV.i64 z)) (wrap_succ hi' hom) | refine And.intro ?_ ?_)
      · repeat' (first | exact rfl | exact trivial | refine And.intro ?_ ?_)
      · rw [hSl] at hq
        rw [hS, ← hv]
        exact snocI_row hq
    · have hd : ¬ ((insAt f b a).Operands.getD i default).Kind = 1 := by simpa using h3
      have hS := rdM_no (C0 := s.C) (C2 := (spA f o J b a s).C) (x := insAt f b a) (p := plAt o b a) hd
      repeat (first | refine AWp.seq ?_ | refine AWp.block ?_ | refine AWp.skip ?_)
      refine AWp.region ?_
      intro _
      refine round_end (i + 1) hi' ?_ (by omega)
      rw [hS]
      refine And.intro ?_ (And.intro rfl (And.intro ?_ (And.intro ⟨_, _, rfl, rfl, fun q hq => rfl⟩ (And.intro trivial (And.intro ⟨_, _, rfl, rfl, fun q hq => rfl⟩ (And.intro trivial (And.intro ⟨_, _, rfl, rfl, fun q hq => rfl⟩ (And.intro trivial (And.intro ⟨_, _, rfl, rfl, fun q hq => rfl⟩ (And.intro trivial trivial))))))))))
      all_goals repeat' (first | exact rfl | exact trivial | exact congrArg (fun z => some (AV.i64 z)) (wrap_succ hi' hom) | refine And.intro ?_ ?_)
  have hi3 : ¬ (i : Int) < (insAt f b a).Operands.length := of_decide_eq_false h1
  obtain rfl : i = (insAt f b a).Operands.length := by omega
  clear hi hi3 h1
  refine AWp.exit ?_
  refine AWp.freeze 60 (fun q => intC ((rdA f o J b a s).getD q default)) rfl (fun q hq => rfl) ?_
  repeat (first | refine AWp.seq ?_ | refine AWp.block ?_ | refine AWp.skip ?_)
  refine AWp.region ?_
  intro _
  repeat (first | refine AWp.seq ?_ | refine AWp.block ?_ | refine AWp.skip ?_)
  refine AWp.loop (fun i : Nat => ⟨[(0, .obj 1001 0), (1, .i64 b), (2, .i64 a), (7, .ptr (insAt f b a).cells), (8, roL 3 Plc.cells (plAt o b a)), (16, ints (rdA f o J b a s)), (171, roL 5 Opd.cells (insAt f b a).Operands), (172, .i64 (insAt f b a).Operands.length), (173, .i64 i)], rnH f o J seed left (dmF seed (insAt f b a) (plAt o b a) (rdA f o J b a s) (spA f o J b a s).C i) (spA f o J b a s).w fr L⟩) (fun i => i ≤ (insAt f b a).Operands.length) (fun i => (insAt f b a).Operands.length - i) 0 (Nat.zero_le _) ?_ ?_
  · refine And.intro ?_ (And.intro rfl (And.intro ?_ (And.intro ⟨_, _, rfl, rfl, fun q hq => rfl⟩ (And.intro trivial (And.intro ⟨_, _, rfl, rfl, fun q hq => rfl⟩ (And.intro trivial trivial))))))
    all_goals repeat' (first | exact rfl | exact trivial | refine And.intro ?_ ?_)
  intro i hi
  repeat (first | refine AWp.seq ?_ | refine AWp.block ?_ | refine AWp.skip ?_)
  refine AWp.region ?_
  intro _
  repeat (first | refine AWp.seq ?_ | refine AWp.block ?_ | refine AWp.skip ?_)
  refine AWp.cond (And.intro (fun h1 => ?_) (fun h1 => ?_))
  · have hi' : i < (insAt f b a).Operands.length := Int.ofNat_lt.1 (of_decide_eq_true h1)
    have hcm := c_Made seed i (insAt f b a) (rdA f o J b a s) (by omega)
    repeat (first | refine AWp.seq ?_ | refine AWp.block ?_ | refine AWp.skip ?_)
    refine AWp.region ?_
    refine And.intro (fun _ => And.intro (Int.natCast_nonneg _) (Int.ofNat_lt.2 hi')) ?_
    intro _
    refine AWp.freezeObj 20 rfl rfl ?_
    repeat (first | refine AWp.seq ?_ | refine AWp.block ?_ | refine AWp.skip ?_)
    refine AWp.region ?_
    intro _
    repeat (first | refine AWp.seq ?_ | refine AWp.block ?_ | refine AWp.skip ?_)
    refine AWp.mono (Q := fun x t => x = .normal ∧ Sub ⟨[(0, .obj 1001 0), (1, .i64 b), (2, .i64 a), (7, .ptr (insAt f b a).cells), (8, roL 3 Plc.cells (plAt o b a)), (16, ints (rdA f o J b a s)), (171, roL 5 Opd.cells (insAt f b a).Operands), (172, .i64 (insAt f b a).Operands.length), (173, .i64 i)], rnH f o J seed left (dmF seed (insAt f b a) (plAt o b a) (rdA f o J b a s) (spA f o J b a s).C (i + 1)) (spA f o J b a s).w fr L⟩ t) ?_ ?_
    · repeat (first | refine AWp.seq ?_ | refine AWp.block ?_ | refine AWp.skip ?_)
      refine AWp.cond (And.intro (fun h2 => ?_) (fun h2 => ?_))
      · have hd : ((insAt f b a).Operands.getD i default).Kind = 2 := by simpa using h2
        have hP := hp i hi'
        rw [dmF_yes hd]
        rcases hP.kind with kP | kP
        · refine AWp.quietP (.q 0 (.q 1 (.q 2 (.q 3 (.q 4 (.q 5 (.q 6 (.q 8 (.q 9 (.q 10 (.q 12 (.q 13 (.q 14 (.c 7 false (.c 11 false (.c 15 true (.q 16 (.c 17 true .fin .no)) .no) .no) (.c 11 false (.c 7 false (.c 15 true (.q 16 (.c 17 true .fin .no)) .no) .no) .no))))))))))))))) [0, 1, 2, 3, 4, 5, 6, 8, 9, 10, 12, 13, 14, 16] [] mixed (by kernel_rfl) ?_
          repeat' (first | exact trivial | refine And.intro ?_ ?_ | refine CallX.lend (m_atReg f o J seed left (dmF seed (insAt f b a) (plAt o b a) (rdA f o J b a s) (spA f o J b a s).C i) (spA f o J b a s).w fr L ((plAt o b a).getD i default) kP (hP.reg kP).1 (hP.reg kP).2.1) [(1001, 1001), (1002, 1002), (1003, 1003)] rfl (And.intro rfl (And.intro rfl (And.intro rfl trivial))) rfl ?_ | refine CallX.pure hcm rfl rfl rfl ?_ | refine chkI (stC (hP.reg kP).2.2) ?_ | fail)
          all_goals first | exact fun _ => And.intro (Int.natCast_nonneg _) (Int.ofNat_lt.2 (by rw [hpl]; exact hi')) | skip
          all_goals intro _
          all_goals refine And.intro rfl (And.intro ?_ (And.intro (cl_reg (hP.reg kP).2.2 rfl) (And.intro ?_ (And.intro ⟨_, _, rfl, rfl, fun q hq => rw_reg (hP.reg kP).2.2⟩ (And.intro trivial (And.intro ⟨_, _, rfl, rfl, fun q hq => rfl⟩ (And.intro trivial trivial)))))))
          all_goals repeat' (first | exact rfl | exact trivial | refine And.intro ?_ ?_)
        · refine AWp.quietP (.q 0 (.q 1 (.q 2 (.q 3 (.q 4 (.q 5 (.q 6 (.q 8 (.q 9 (.q 10 (.q 12 (.q 13 (.q 14 (.c 7 false (.c 11 false (.c 15 true (.q 16 (.c 17 true .fin .no)) .no) .no) (.c 11 false (.c 7 false (.c 15 true (.q 16 (.c 17 true .fin .no)) .no) .no) .no))))))))))))))) [0, 1, 2, 3, 4, 5, 6, 8, 9, 10, 12, 13, 14, 16] [] mixed (by kernel_rfl) ?_
          repeat' (first | exact trivial | refine And.intro ?_ ?_ | refine CallX.lend (m_atSlot f o J seed left (dmF seed (insAt f b a) (plAt o b a) (rdA f o J b a s) (spA f o J b a s).C i) (spA f o J b a s).w fr L ((plAt o b a).getD i default) kP (hP.slot kP)) [(1001, 1001), (1002, 1002), (1003, 1003)] rfl (And.intro rfl (And.intro rfl (And.intro rfl trivial))) rfl ?_ | refine CallX.pure hcm rfl rfl rfl ?_ | fail)
          all_goals first | exact fun _ => And.intro (Int.natCast_nonneg _) (Int.ofNat_lt.2 (by rw [hpl]; exact hi')) | exact (by have := hP.slot kP; omega : (((plAt o b a).getD i default).N.toNat < fr)) | skip
          all_goals intro _
          all_goals refine And.intro rfl (And.intro ?_ (And.intro (cl_slot kP) (And.intro ?_ (And.intro ⟨_, _, rfl, rfl, fun q hq => rw_slot kP rfl⟩ (And.intro trivial (And.intro ⟨_, _, rfl, rfl, fun q hq => rfl⟩ (And.intro trivial trivial)))))))
          all_goals repeat' (first | exact rfl | exact trivial | refine And.intro ?_ ?_)
      · have hd : ¬ ((insAt f b a).Operands.getD i default).Kind = 2 := by simpa using h2
        rw [dmF_no hd]
        refine AWp.skip ?_
        refine And.intro rfl (And.intro ?_ (And.intro rfl (And.intro ?_ (And.intro ⟨_, _, rfl, rfl, fun q hq => rfl⟩ (And.intro trivial (And.intro ⟨_, _, rfl, rfl, fun q hq => rfl⟩ (And.intro trivial trivial)))))))
        all_goals repeat' (first | exact rfl | exact trivial | refine And.intro ?_ ?_)
    rintro _ _ ⟨rfl, hs⟩
    refine AWp.weaken hs ?_
    repeat (first | refine AWp.seq ?_ | refine AWp.block ?_ | refine AWp.skip ?_)
    refine AWp.region ?_
    intro _
    refine round_end (i + 1) hi' ?_ (by omega)
    refine And.intro ?_ (And.intro rfl (And.intro ?_ (And.intro ⟨_, _, rfl, rfl, fun q hq => rfl⟩ (And.intro trivial (And.intro ⟨_, _, rfl, rfl, fun q hq => rfl⟩ (And.intro trivial trivial))))))
    all_goals repeat' (first | exact rfl | exact trivial | exact congrArg (fun z => some (AV.i64 z)) (wrap_succ hi' hom) | refine And.intro ?_ ?_)
  have hi3 : ¬ (i : Int) < (insAt f b a).Operands.length := of_decide_eq_false h1
  obtain rfl : i = (insAt f b a).Operands.length := by omega
  clear hi hi3 h1
  refine AWp.exit ?_
  repeat (first | refine AWp.seq ?_ | refine AWp.block ?_ | refine AWp.skip ?_)
  refine AWp.quietP (.q 0 (.q 1 (.q 2 (.q 3 (.q 4 (.q 5 (.q 6 (.q 7 (.q 8 (.q 9 (.q 10 (.q 11 (.q 12 (.q 13 (.c 14 true (.q 15 .fin) .no))))))))))))))) [0, 1, 2, 3, 4, 5, 6, 7, 8, 9, 10, 11, 12, 13, 15] [1001, 1002, 1003] mixed (by kernel_rfl) ?_
  refine And.intro (fun _ => And.intro (Int.natCast_nonneg _) (Int.ofNat_lt.2 hb)) ?_
  refine And.intro (CallX.pure (c_Takes seed a (f.Blocks.getD b default) (rdA f o J b a s) (by omega)) rfl rfl rfl ?_) trivial
  intro _
  repeat (first | refine AWp.seq ?_ | refine AWp.block ?_ | refine AWp.skip ?_)
  refine AWp.region ?_
  refine And.intro (Nat.le_refl _) (And.intro (fun i hi => ?_) (And.intro rfl (And.intro (by omega) ?_)))
  · have e : i = 0 := by omega
    subst e; rfl
  intro _
  repeat (first | refine AWp.seq ?_ | refine AWp.block ?_ | refine AWp.skip ?_)
  refine AWp.region ?_
  intro _
  refine AWp.ret ⟨Or.inl rfl, ?_⟩
  intro _
  refine And.intro rfl (And.intro trivial (And.intro rfl (And.intro ?_ (And.intro ⟨_, _, rfl, rfl, fun i hi => rfl⟩ (And.intro trivial (And.intro ⟨_, _, rfl, hLl.symm, fun i hi => ?_⟩ (And.intro trivial trivial)))))))
  · repeat' (first | exact rfl | exact trivial | refine And.intro ?_ ?_)
  · rw [hLl] at hi
    exact snocE_row hi
end Go.Proofs.Ytnbgpgbbfjaomaa

/- What an output is that mach.Check lets by (plain); contract of the box's begin. Condition: a machine that may be. -/
namespace Go.Proofs.Ytnbgpgbbfjaomaa
open Go Go.Abs Go.RowKit Go.Abs.Gra

theorem insF_spo {f : Fun} {m : Mch} {x : Ins} (h : insF f m x = 0) : firstF (spoG m x.Spoils) x.Spoils.length = 0 := by
  have h1 : ¬ (x.Op < 0 ∨ 255 < x.Op) := fun hn => by rw [insF_op hn] at h; cases h
  have h2 : firstF (opdG f m x) x.Operands.length = 0 := Classical.byContradiction fun hn => by rw [insF_a h1 rfl hn] at h; exact hn h
  have h3 : firstF (reuG f x) x.Operands.length = 0 := Classical.byContradiction fun hn => by rw [insF_b h1 h2 rfl hn] at h; exact hn h
  exact Classical.byContradiction fun hn => by rw [insF_s h1 h2 h3 rfl hn] at h; exact hn h
structure OutOk (f : Fun) (m : Mch) (o : Oup) (fr : Nat) : Prop where
  mch : machF m = 0
  chk0 : chkF f m = 0
  frm : o.Frame = fr
  small : fr ≤ 1000
  pl : o.Places.length = f.Blocks.length
  row : ∀ b, b < f.Blocks.length → (o.Places.getD b default).length = (f.Blocks.getD b default).Instrs.length
  ops : ∀ b i, b < f.Blocks.length → i < (f.Blocks.getD b default).Instrs.length → (plAt o b i).length = (insAt f b i).Operands.length
  at_ : ∀ b i k, b < f.Blocks.length → i < (f.Blocks.getD b default).Instrs.length → k < (insAt f b i).Operands.length → PlOk fr ((plAt o b i).getD k default)
  mv : ∀ i k, i < o.Edits.length → k < (o.Edits.getD i default).Moves.length → PlOk fr ((o.Edits.getD i default).Moves.getD k default).From ∧ PlOk fr ((o.Edits.getD i default).Moves.getD k default).To
  spo : ∀ b i k, b < f.Blocks.length → i < (f.Blocks.getD b default).Instrs.length → k < (insAt f b i).Spoils.length → (0 ≤ ((insAt f b i).Spoils.getD k default).Class ∧ ((insAt f b i).Spoils.getD k default).Class < 2) ∧ (0 ≤ ((insAt f b i).Spoils.getD k default).N ∧ ((insAt f b i).Spoils.getD k default).N < 11)
theorem out_ok {f : Fun} {m : Mch} {o : Oup} (h : outF f m o = 0) : flwF f m = 0 ∧ ∃ fr : Nat, OutOk f m o fr := by
  have h0 : flwF f m = 0 := Classical.byContradiction fun hn => by rw [outF_1 hn] at h; exact hn h
  have h2 : ¬ (o.Frame < 0 ∨ 1000 < o.Frame) := fun hn => by rw [outF_2 h0 hn] at h; cases h
  have h3 : ¬ o.Places.length ≠ f.Blocks.length := fun hn => by rw [outF_3 h0 h2 hn] at h; cases h
  have h4 : firstF (bkG f m o) f.Blocks.length = 0 := Classical.byContradiction fun hn => by rw [outF_4 h0 h2 h3 rfl hn] at h; exact hn h
  rw [outF_5 h0 h2 h3 h4] at h
  have hm := flw_mach h0
  have hc : chkF f m = 0 := Classical.byContradiction fun hn => by rw [flwF_1 hn] at h0; exact hn h0
  obtain ⟨_, _, _, hblk, _⟩ := chkF_zero hc
  have hb : ∀ b, b < f.Blocks.length → (o.Places.getD b default).length = (f.Blocks.getD b default).Instrs.length ∧ firstF (inG f m o b) (f.Blocks.getD b default).Instrs.length = 0 := fun b hb => by
    have hk := firstF_zero h4 b hb
    have g1 : ¬ (o.Places.getD b default).length ≠ (f.Blocks.getD b default).Instrs.length := fun hn => by rw [bkG_1 hn] at hk; cases hk
    rw [bkG_2 g1] at hk
    exact ⟨by omega, hk⟩
  have hi : ∀ b i, b < f.Blocks.length → i < (f.Blocks.getD b default).Instrs.length → (plAt o b i).length = (insAt f b i).Operands.length ∧ firstF (opG m o.Frame (plAt o b i)) (plAt o b i).length = 0 := fun b i hbl hil => by
    have hk := firstF_zero (hb b hbl).2 i hil
    have g1 : ¬ (plAt o b i).length ≠ ((f.Blocks.getD b default).Instrs.getD i default).Operands.length := fun hn => by rw [inG_1 hn] at hk; cases hk
    rw [inG_2 g1] at hk
    exact ⟨Classical.byContradiction g1, hk⟩
  obtain ⟨fr, hfr⟩ : ∃ fr : Nat, o.Frame = fr := ⟨o.Frame.toNat, by omega⟩
  refine ⟨h0, fr, hm, hc, hfr, by omega, by omega, fun b hbl => (hb b hbl).1, fun b i hbl hil => (hi b i hbl hil).1, fun b i k hbl hil hk => ?_, fun i k hil hk => ?_, fun b i k hbl hil hk => ?_⟩
  · have hk2 := firstF_zero (hi b i hbl hil).2 k (by rw [(hi b i hbl hil).1]; exact hk)
    unfold opG at hk2
    split at hk2
    · rename_i g; rw [hfr] at g; exact PlOk.of_place hm g
    · cases hk2
  · have he := firstF_zero h i hil
    have e1 : ¬ edR f (o.Edits.getD i default) := fun hn => by rw [edtG_1 hn] at he; cases he
    have e2 : ¬ (0 < i ∧ edP (o.Edits.getD (i - 1) default) (o.Edits.getD i default)) := fun hn => by rw [edtG_2 e1 hn] at he; cases he
    have e3 : ¬ 20000 < sumM o.Edits (i + 1) := fun hn => by rw [edtG_3 e1 e2 hn] at he; cases he
    rw [edtG_4 e1 e2 e3] at he
    have hk2 := firstF_zero he k hk
    unfold movG movF at hk2
    split at hk2
    · cases hk2
    · rename_i g
      rw [hfr] at g
      refine ⟨PlOk.of_end hm ?_, PlOk.of_end hm ?_⟩
      · exact Classical.byContradiction fun z => g (.inl (by simpa using z))
      · exact Classical.byContradiction fun z => g (.inr (by simpa using z))
  · have hx := firstF_zero (blkF_zero (firstF_zero hblk b hbl)).1 i hil
    have := spoG_ok hm (firstF_zero (insF_spo hx) k hk)
    exact ⟨this.1, this.2.1, Int.lt_trans this.2.2 (by decide)⟩
theorem rw_at {C : Nat → Int} {k q : Nat} {v : Int} : intC (setC C (22 + k) v (22 + q)) = if q = k then intC v else intC (C (22 + q)) := by
  unfold setC
  by_cases e : q = k
  · rw [if_pos e, if_pos (by omega)]
  · rw [if_neg e, if_neg (by omega)]
theorem cl_at {f : Fun} {o : Oup} {J : List Int} {seed left : Int} {C : Nat → Int} {w s sn e en : Nat} {k : Nat} {v : Int} : some (rnmC f o J seed left C w s sn e en) = some (rnmC f o J seed left (setC C (22 + k) v) w s sn e en) :=
  congrArg (fun c => some (HO.cells c)) (rnL_congr fun i hi => (if_neg (by omega)).symm)
set_option maxHeartbeats 4000000 in
theorem m_begin (f : Fun) (o : Oup) (J : List Int) (hJ : J.length ≤ 64) (seed left : Int) (m : Mch) (hm : machF m = 0) (fr : Nat) (hfr : fr ≤ 1000) (L : List Evt) :
    ACallM B.P 44 ⟨[.obj 1001 7, m.av, .i64 fr], rnH f o J seed left (bgF m J 0).C (bgF m J 0).w 0 L, .tup [], [(1001, rnmC f o J seed left (bgF m J (22 + fr)).C (bgF m J (22 + fr)).w 33 fr 1003 L.length), (33, rowG fr (fun i => (bgF m J (22 + fr)).C (22 + i))), (1003, rowE L)]⟩ := by
  have hfm : fr ≤ maxLen := by unfold maxLen; omega
  have h2m : 2 ≤ maxLen := by unfold maxLen; omega
  refine ACallM.enter B _ _ Try.func44 rfl rfl Try.ntmps44 Try.results44 rfl ?_ fun hreal => ?_
  · refine And.intro ?_ (And.intro ?_ ?_)
    all_goals repeat' (first | exact rfl | exact trivial | refine And.intro ?_ ?_)
  clear hreal
  repeat (first | refine AWp.seq ?_ | refine AWp.block ?_ | refine AWp.skip ?_)
  refine AWp.region ?_
  intro _
  refine AWp.freezeObj 4 rfl rfl ?_
  repeat (first | refine AWp.seq ?_ | refine AWp.block ?_ | refine AWp.skip ?_)
  refine AWp.region ?_
  intro _
  repeat (first | refine AWp.seq ?_ | refine AWp.block ?_ | refine AWp.skip ?_)
  refine AWp.loop (fun c : Nat => ⟨[(0, .obj 1001 7), (2, .i64 fr), (4, .ptr m.cells), (9, .i64 c)], rnH f o J seed left (bgF m J (11 * c)).C (bgF m J (11 * c)).w 0 L⟩) (fun c => c ≤ 2) (fun c => 2 - c) 0 (Nat.zero_le _) ?_ ?_
  · refine And.intro ?_ (And.intro rfl (And.intro ?_ (And.intro ⟨_, _, rfl, rfl, fun q hq => absurd hq (Nat.not_lt_zero _)⟩ (And.intro trivial (And.intro ⟨_, _, rfl, rfl, fun q hq => rfl⟩ (And.intro trivial trivial))))))
    all_goals repeat' (first | exact rfl | exact trivial | refine And.intro ?_ ?_)
  intro c hc
  repeat (first | refine AWp.seq ?_ | refine AWp.block ?_ | refine AWp.skip ?_)
  refine AWp.region ?_
  intro _
  repeat (first | refine AWp.seq ?_ | refine AWp.block ?_ | refine AWp.skip ?_)
  refine AWp.cond (And.intro (fun h1 => ?_) (fun h1 => ?_))
  · have hc' : c < 2 := by have := of_decide_eq_true h1; omega
    have hr := regF_le hm (c := (c : Int))
    obtain ⟨r, hr1⟩ : ∃ r : Nat, regF m c + 1 = r := ⟨(regF m c + 1).toNat, by omega⟩
    have hr2 : r ≤ 11 := by omega
    have hrm : r ≤ maxLen := by unfold maxLen; omega
    have hwr : IntKind.i64.wrap (regF m c + 1) = r := by rw [wrap_in (by omega) (by omega)]; exact hr1
    repeat (first | refine AWp.seq ?_ | refine AWp.block ?_ | refine AWp.skip ?_)
    refine AWp.region ?_
    intro _
    repeat (first | refine AWp.seq ?_ | refine AWp.block ?_ | refine AWp.skip ?_)
    refine AWp.region ?_
    refine And.intro (fun _ => And.intro (Int.natCast_nonneg _) (Int.ofNat_lt.2 hc')) ?_
    intro _
    repeat (first | refine AWp.seq ?_ | refine AWp.block ?_ | refine AWp.skip ?_)
    refine AWp.loop (fun n : Nat => ⟨[(0, .obj 1001 7), (2, .i64 fr), (4, .ptr m.cells), (9, .i64 c), (6, .i64 c), (16, .i64 r), (17, .i64 n)], rnH f o J seed left (bgF m J (11 * c + n)).C (bgF m J (11 * c + n)).w 0 L⟩) (fun n => n ≤ r) (fun n => r - n) 0 (Nat.zero_le _) ?_ ?_
    · refine And.intro ?_ (And.intro rfl (And.intro ?_ (And.intro ⟨_, _, rfl, rfl, fun q hq => absurd hq (Nat.not_lt_zero _)⟩ (And.intro trivial (And.intro ⟨_, _, rfl, rfl, fun q hq => rfl⟩ (And.intro trivial trivial))))))
      all_goals repeat' (first | exact rfl | exact trivial | exact congrArg (fun z => some (AV.i64 z)) hwr | refine And.intro ?_ ?_)
    intro n hn
    repeat (first | refine AWp.seq ?_ | refine AWp.block ?_ | refine AWp.skip ?_)
    refine AWp.region ?_
    intro _
    repeat (first | refine AWp.seq ?_ | refine AWp.block ?_ | refine AWp.skip ?_)
    refine AWp.cond (And.intro (fun h2 => ?_) (fun h2 => ?_))
    · have hn' : n < r := Int.ofNat_lt.1 (of_decide_eq_true h2)
      have hw := bgF_w (m := m) (J := J) (11 * c + n)
      have hB : bgF m J (11 * c + (n + 1)) = ⟨setC (bgF m J (11 * c + n)).C (11 * c + n) (wildF J (bgF m J (11 * c + n)).w), (bgF m J (11 * c + n)).w + 1⟩ := bgF_yes (c := 11 * c + n) (.inr (by
        have e1 : (11 * c + n) % 11 = n := by omega
        have e2 : (11 * c + n) / 11 = c := by omega
        rw [e1, e2]; omega))
      repeat (first | refine AWp.seq ?_ | refine AWp.block ?_ | refine AWp.skip ?_)
      refine AWp.region ?_
      intro _
      repeat (first | refine AWp.seq ?_ | refine AWp.block ?_ | refine AWp.skip ?_)
      refine AWp.quietP (.q 0 (.q 1 (.q 2 (.q 3 (.q 5 (.q 6 (.q 7 (.c 4 false (.q 8 (.c 9 true .fin .no)) .no)))))))) [0, 1, 2, 3, 5, 6, 7, 8] [] mixed (by kernel_rfl) ?_
      repeat' (first | exact trivial | refine And.intro ?_ ?_ | refine CallX.lend (m_spoilt f o J hJ seed left (bgF m J (11 * c + n)).C (bgF m J (11 * c + n)).w 0 (by omega) L) [(1001, 1001), (1002, 1002), (1003, 1003)] rfl (And.intro rfl (And.intro rfl (And.intro rfl trivial))) rfl ?_ | refine chkI (stO (off := 7 + 0 + (c : Int).toNat * 11 + (n : Int).toNat * 1) (i := 11 * c + n) (by omega) (by omega)) ?_ | fail)
      all_goals first | exact fun _ => (by omega) | skip
      intro _
      repeat (first | refine AWp.seq ?_ | refine AWp.block ?_ | refine AWp.skip ?_)
      refine AWp.region ?_
      intro _
      refine round_end (n + 1) hn' ?_ (by omega)
      rw [hB]
      refine And.intro ?_ (And.intro (cl_off (i := 11 * c + n) (by omega) (by omega)) (And.intro ?_ (And.intro ⟨_, _, rfl, rfl, fun q hq => absurd hq (Nat.not_lt_zero _)⟩ (And.intro trivial (And.intro ⟨_, _, rfl, rfl, fun q hq => rfl⟩ (And.intro trivial trivial))))))
      all_goals repeat' (first | exact rfl | exact trivial | exact congrArg (fun z => some (AV.i64 z)) (wrap_succ hn' hrm) | refine And.intro ?_ ?_)
    have hn3 : ¬ (n : Int) < r := of_decide_eq_false h2
    obtain rfl : n = r := by omega
    have hE : bgF m J (11 * (c + 1)) = bgF m J (11 * c + n) := by
      have := bgF_skip (m := m) (J := J) hc' (n := n) (by omega) (11 - n) (by omega)
      rw [← this]; exact congrArg _ (by omega)
    refine AWp.exit ?_
    repeat (first | refine AWp.seq ?_ | refine AWp.block ?_ | refine AWp.skip ?_)
    refine AWp.region ?_
    intro _
    refine round_end (c + 1) hc' ?_ (by omega)
    rw [hE]
    refine And.intro ?_ (And.intro rfl (And.intro ?_ (And.intro ⟨_, _, rfl, rfl, fun q hq => absurd hq (Nat.not_lt_zero _)⟩ (And.intro trivial (And.intro ⟨_, _, rfl, rfl, fun q hq => rfl⟩ (And.intro trivial trivial))))))
    all_goals repeat' (first | exact rfl | exact trivial | exact congrArg (fun z => some (AV.i64 z)) (wrap_succ hc' h2m) | refine And.intro ?_ ?_)
  have hc3 : ¬ (c : Int) < 2 := of_decide_eq_false h1
  obtain rfl : c = 2 := by omega
  refine AWp.exit ?_
  repeat (first | refine AWp.seq ?_ | refine AWp.block ?_ | refine AWp.skip ?_)
  refine AWp.region ?_
  refine And.intro rfl (And.intro (Int.natCast_nonneg _) (And.intro (by simp only [Int.toNat_natCast]; omega) ?_))
  intro _
  repeat (first | refine AWp.seq ?_ | refine AWp.block ?_ | refine AWp.skip ?_)
  refine AWp.region ?_
  intro _
  repeat (first | refine AWp.seq ?_ | refine AWp.block ?_ | refine AWp.skip ?_)
  refine AWp.loop (fun i : Nat => ⟨[(0, .obj 1001 7), (40, .i64 fr), (41, .i64 i)], [(1001, rnmC f o J seed left (bgF m J (22 + i)).C (bgF m J (22 + i)).w 33 fr 1003 L.length), (33, rowG fr (fun q => (bgF m J (22 + i)).C (22 + q))), (1003, rowE L)]⟩) (fun i => i ≤ fr) (fun i => fr - i) 0 (Nat.zero_le _) ?_ ?_
  · refine And.intro ?_ (And.intro rfl (And.intro ?_ (And.intro ⟨_, _, rfl, rfl, fun q hq => congrArg intC (bgF_far _ _ (by omega))⟩ (And.intro trivial (And.intro ⟨_, _, rfl, rfl, fun q hq => rfl⟩ (And.intro trivial trivial))))))
    all_goals repeat' (first | exact rfl | exact trivial | refine And.intro ?_ ?_)
  intro i hi
  repeat (first | refine AWp.seq ?_ | refine AWp.block ?_ | refine AWp.skip ?_)
  refine AWp.region ?_
  intro _
  repeat (first | refine AWp.seq ?_ | refine AWp.block ?_ | refine AWp.skip ?_)
  refine AWp.cond (And.intro (fun h1 => ?_) (fun h1 => ?_))
  · have hi' : i < fr := Int.ofNat_lt.1 (of_decide_eq_true h1)
    have hw := bgF_w (m := m) (J := J) (22 + i)
    have hB : bgF m J (22 + (i + 1)) = ⟨setC (bgF m J (22 + i)).C (22 + i) (wildF J (bgF m J (22 + i)).w), (bgF m J (22 + i)).w + 1⟩ := bgF_yes (c := 22 + i) (.inl (by omega))
    repeat (first | refine AWp.seq ?_ | refine AWp.block ?_ | refine AWp.skip ?_)
    refine AWp.region ?_
    intro _
    repeat (first | refine AWp.seq ?_ | refine AWp.block ?_ | refine AWp.skip ?_)
    refine AWp.mono (Q := fun x t => x = .normal ∧ Sub ⟨[(0, .obj 1001 7), (40, .i64 fr), (41, .i64 i)], [(1001, rnmC f o J seed left (bgF m J (22 + (i + 1))).C (bgF m J (22 + (i + 1))).w 33 fr 1003 L.length), (33, rowG fr (fun q => (bgF m J (22 + (i + 1))).C (22 + q))), (1003, rowE L)]⟩ t) ?_ ?_
    · rw [hB]
      refine AWp.quietP (.q 0 (.q 1 (.q 2 (.q 4 (.q 5 (.c 3 false (.c 6 false (.q 7 (.c 8 true .fin .no)) .no) (.c 6 false (.c 3 false (.q 7 (.c 8 true .fin .no)) .no) .no))))))) [0, 1, 2, 4, 5, 7] [] mixed (by kernel_rfl) ?_
      repeat' (first | exact trivial | refine And.intro ?_ ?_ | refine CallX.lend (m_spoilt f o J hJ seed left (bgF m J (22 + i)).C (bgF m J (22 + i)).w fr (by omega) L) [(1001, 1001), (1002, 33), (1003, 1003)] rfl (And.intro rfl (And.intro rfl (And.intro rfl trivial))) rfl ?_ | fail)
      all_goals first | exact fun _ => And.intro (Int.natCast_nonneg _) (Int.ofNat_lt.2 hi') | exact hi' | skip
      all_goals intro _
      all_goals refine And.intro rfl (And.intro ?_ (And.intro cl_at (And.intro ?_ (And.intro ⟨_, _, rfl, rfl, fun q hq => rw_at⟩ (And.intro trivial (And.intro ⟨_, _, rfl, rfl, fun q hq => rfl⟩ (And.intro trivial trivial)))))))
      all_goals repeat' (first | exact rfl | exact trivial | refine And.intro ?_ ?_)
    rintro _ _ ⟨rfl, hs⟩
    refine AWp.weaken hs ?_
    repeat (first | refine AWp.seq ?_ | refine AWp.block ?_ | refine AWp.skip ?_)
    refine AWp.region ?_
    intro _
    refine round_end (i + 1) hi' ?_ (by omega)
    refine And.intro ?_ (And.intro rfl (And.intro ?_ (And.intro ⟨_, _, rfl, rfl, fun q hq => rfl⟩ (And.intro trivial (And.intro ⟨_, _, rfl, rfl, fun q hq => rfl⟩ (And.intro trivial trivial))))))
    all_goals repeat' (first | exact rfl | exact trivial | exact congrArg (fun z => some (AV.i64 z)) (wrap_succ hi' hfm) | refine And.intro ?_ ?_)
  have hi3 : ¬ (i : Int) < fr := of_decide_eq_false h1
  obtain rfl : i = fr := by omega
  refine AWp.exit ?_
  refine ⟨Or.inr rfl, ?_⟩
  intro _
  refine And.intro rfl (And.intro trivial (And.intro rfl (And.intro ?_ (And.intro ⟨_, _, rfl, rfl, fun q hq => rfl⟩ (And.intro trivial (And.intro ⟨_, _, rfl, rfl, fun q hq => rfl⟩ (And.intro trivial trivial)))))))
  all_goals repeat' (first | exact rfl | exact trivial | refine And.intro ?_ ?_)
end Go.Proofs.Ytnbgpgbbfjaomaa

/- Contract of mach.Run. Condition: an output that may be; steps and junk within bounds. -/
namespace Go.Proofs.Ytnbgpgbbfjaomaa
open Go Go.Abs Go.RowKit Go.Abs.Gra

/-- The box at the beginning. -/
@[reducible] def boxA (m : Mch) (J : List Int) (fr : Nat) : Box := bgF m J (22 + fr)
theorem nxF_zero {J : List Int} : 0 = nxF J 0 := by unfold nxF; split <;> rfl
theorem inA_w {f : Fun} (hC : Chkd f) {o : Oup} {J : List Int} {seed : Int} {b a : Nat} {s : Box} (hb : b < f.Blocks.length) (ha : a < (f.Blocks.getD b default).Instrs.length) : (inA f o J seed b a s).w ≤ s.w + 26 := by
  have h := spA_w (f := f) (o := o) (J := J) (b := b) (a := a) (s := s)
  have h1 : (insAt f b a).Operands.length ≤ 6 := hC.e.siz.ops b a hb ha
  have h2 : (insAt f b a).Spoils.length ≤ 20 := hC.e.siz.spo b a hb ha
  show (spA f o J b a s).w ≤ _
  omega
set_option maxHeartbeats 8000000 in
theorem c_MachRun (f : Fun) (m : Mch) (o : Oup) (hok : Fun.ok f) (hoo : Oup.ok o) {fr : Nat} (hO : OutOk f m o fr) (h0 : outF f m o = 0) (seed : Int) (J : List Int) (hJ : J.length ≤ 64) (n : Nat) (hn : n ≤ 5000) : ACallIs B.P 14 [f.av, m.av, o.av, .i64 seed, ints J, .i64 n] (.tup [evtV (outS f o J seed n 0 0 (boxA m J fr) []), .i64 0]) := by
  have hc := c_MachCheck f m o hok hoo
  rw [h0] at hc
  have hC := chkd_of hO.chk0
  have hz := hC.e.siz
  have hb := hz.blocks
  have hfr := hO.small
  have hfm : o.Frame = (fr : Int) := hO.frm
  have hw0 : (boxA m J fr).w ≤ 22 + fr := bgF_w _
  refine ACallIs.enter B _ _ Try.func14 rfl rfl Try.ntmps14 Try.results14 rfl fun hreal => ?_
  clear hreal
  repeat (first | refine AWp.seq ?_ | refine AWp.block ?_ | refine AWp.skip ?_)
  refine AWp.region ?_
  intro _
  refine AWp.freezeObj 6 rfl rfl ?_
  refine AWp.freezeObj 7 rfl rfl ?_
  refine AWp.freezeObj 8 rfl rfl ?_
  repeat (first | refine AWp.seq ?_ | refine AWp.block ?_ | refine AWp.skip ?_)
  refine AWp.region ?_
  refine CallX.pure hc rfl rfl rfl ?_
  intro _
  repeat (first | refine AWp.seq ?_ | refine AWp.block ?_ | refine AWp.skip ?_)
  refine AWp.region ?_
  intro _
  repeat (first | refine AWp.seq ?_ | refine AWp.block ?_ | refine AWp.skip ?_)
  refine AWp.cond (And.intro (fun h1 => ?_) (fun h1 => ?_))
  · cases h1
  repeat (first | refine AWp.seq ?_ | refine AWp.block ?_ | refine AWp.skip ?_)
  refine AWp.region ?_
  repeat' refine And.intro ?_ ?_
  all_goals first | exact fun h => h | exact gT | exact gF | exact fun h => h | skip
  intro _
  repeat (first | refine AWp.seq ?_ | refine AWp.block ?_ | refine AWp.skip ?_)
  refine AWp.cond (And.intro (fun h2 => ?_) (fun h2 => ?_))
  · exfalso
    have h2 : (bif decide ((n : Int) < 0) then true else decide ((n : Int) > 5000)) = true := h2
    rw [decide_eq_false (by omega), decide_eq_false (by omega)] at h2
    cases h2
  repeat (first | refine AWp.seq ?_ | refine AWp.block ?_ | refine AWp.skip ?_)
  refine AWp.region ?_
  intro _
  repeat (first | refine AWp.seq ?_ | refine AWp.block ?_ | refine AWp.skip ?_)
  refine AWp.cond (And.intro (fun h3 => ?_) (fun h3 => ?_))
  · exfalso
    have := of_decide_eq_true h3; omega
  repeat (first | refine AWp.seq ?_ | refine AWp.block ?_ | refine AWp.skip ?_)
  refine AWp.region ?_
  intro _
  refine AWp.via (newρ 61) ⟨[(6, .ptr f.cells), (7, .ptr m.cells), (8, .ptr o.cells), (15, .obj 42 0)], [(42, .cells (f.cells ++ o.cells ++ [.i64 seed, .i64 n, .i64 0, .i64 0, .i64 0, .i64 0, .i64 0, .i64 0, .i64 0, .i64 0, .i64 0, .i64 0, .i64 0, .i64 0, .i64 0, .i64 0, .i64 0, .i64 0, .i64 0, .i64 0, .i64 0, .i64 0, .i64 0, .i64 0, nilV, ints J, .i64 0, .sl 61 0])), (61, rowE [])]⟩ ?_ ?_
  · refine ⟨?_, ?_, newρ_inj 61 _, newρ_old (by decide) _⟩
    · repeat' (first | exact rfl | exact trivial | refine And.intro ?_ ?_)
    · refine And.intro (And.intro ⟨_, ⟨_, rfl, rfl, trivial⟩, rfl⟩ ?_) (And.intro (And.intro ⟨_, _, _, rfl⟩ ?_) trivial)
      all_goals repeat' (first | exact rfl | exact trivial | refine And.intro ?_ ?_)
  refine AWp.via (newρ 62) ⟨[(6, .ptr f.cells), (7, .ptr m.cells), (8, .ptr o.cells), (15, .obj 42 0)], [(42, .cells (f.cells ++ o.cells ++ [.i64 seed, .i64 n, .i64 0, .i64 0, .i64 0, .i64 0, .i64 0, .i64 0, .i64 0, .i64 0, .i64 0, .i64 0, .i64 0, .i64 0, .i64 0, .i64 0, .i64 0, .i64 0, .i64 0, .i64 0, .i64 0, .i64 0, .i64 0, .i64 0, .sl 62 0, ints J, .i64 0, .sl 61 0])), (61, rowE []), (62, rowG 0 (fun i => (bgF m J 0).C (22 + i)))]⟩ ?_ ?_
  · refine ⟨?_, ?_, newρ_inj 62 _, newρ_old (by decide) _⟩
    · repeat' (first | exact rfl | exact trivial | refine And.intro ?_ ?_)
    · refine And.intro (And.intro ⟨_, ⟨_, rfl, rfl, trivial⟩, rfl⟩ ?_) (And.intro (And.intro ⟨_, ⟨_, rfl, rfl, trivial⟩, Or.inl ⟨_, rfl, fun i hi => rfl⟩⟩ ?_) (And.intro (And.intro ⟨_, _, _, rfl⟩ ?_) trivial))
      all_goals repeat' (first | exact rfl | exact trivial | refine And.intro ?_ ?_)
  refine AWp.weaken (s' := ⟨[(6, .ptr f.cells), (7, .ptr m.cells), (8, .ptr o.cells), (15, .obj 42 0)], [(42, rnmC f o J seed n (bgF m J 0).C (bgF m J 0).w 62 0 61 0), (62, rowG 0 (fun i => (bgF m J 0).C (22 + i))), (61, rowE [])]⟩) ?_ ?_
  · refine And.intro ?_ (And.intro (congrArg (fun z => some (HO.cells ((rnL f o J seed n (bgF m J 0).C (bgF m J 0).w 62 0 61 0).take 31 ++ [AV.i64 z, .sl 61 0]))) nxF_zero) (And.intro ?_ (And.intro ⟨_, _, rfl, rfl, fun i hi => absurd hi (Nat.not_lt_zero _)⟩ (And.intro trivial (And.intro ⟨_, _, rfl, rfl, fun i hi => absurd hi (Nat.not_lt_zero _)⟩ (And.intro trivial trivial))))))
    all_goals repeat' (first | exact rfl | exact trivial | refine And.intro ?_ ?_)
  have hbg := m_begin f o J hJ seed n m hO.mch fr hfr []
  rw [← hfm] at hbg
  repeat (first | refine AWp.seq ?_ | refine AWp.block ?_ | refine AWp.skip ?_)
  refine AWp.quietP (.q 0 (.q 1 (.q 2 (.q 3 (.q 4 (.q 5 (.c 6 true .fin .no))))))) [0, 1, 2, 3, 4, 5] [] mixed (by kernel_rfl) ?_
  repeat' (first | exact trivial | refine And.intro ?_ ?_ | refine CallX.lend hbg [(1001, 42), (1002, 62), (1003, 61), (33, 33)] rfl (And.intro rfl (And.intro rfl (And.intro rfl trivial))) rfl ?_ | fail)
  intro _
  repeat (first | refine AWp.seq ?_ | refine AWp.block ?_ | refine AWp.skip ?_)
  refine AWp.region ?_
  intro _
  repeat (first | refine AWp.seq ?_ | refine AWp.block ?_ | refine AWp.skip ?_)
  refine AWp.loop (fun s : (Nat × Nat) × (Box × List Evt) => ⟨[(6, .ptr f.cells), (15, .obj 42 0), (16, .i64 s.1.2)], [(42, rnmC f o J seed s.1.1 s.2.1.C s.2.1.w 33 fr 61 s.2.2.length), (33, rowG fr (fun i => s.2.1.C (22 + i))), (61, rowE s.2.2)]⟩) (fun s => s.1.2 < f.Blocks.length ∧ s.1.1 ≤ 5000 ∧ s.2.2.length + s.1.1 ≤ 5000 ∧ s.2.1.w + 26 * s.1.1 ≤ 131022 ∧ outS f o J seed s.1.1 s.1.2 0 s.2.1 s.2.2 = outS f o J seed n 0 0 (boxA m J fr) []) (fun s => s.1.1) ((n, 0), (boxA m J fr, [])) ⟨by show 0 < f.Blocks.length; omega, hn, by show 0 + n ≤ 5000; omega, by show (boxA m J fr).w + 26 * n ≤ 131022; omega, rfl⟩ ?_ ?_
  · refine And.intro ?_ (And.intro rfl (And.intro ?_ (And.intro ⟨_, _, rfl, rfl, fun i hi => rfl⟩ (And.intro trivial (And.intro ⟨_, _, rfl, rfl, fun i hi => rfl⟩ (And.intro trivial trivial))))))
    all_goals repeat' (first | exact rfl | exact trivial | refine And.intro ?_ ?_)
  rintro ⟨⟨k, b⟩, ⟨s, L⟩⟩ ⟨hb2, hk5, hLk, hwk, hR⟩
  simp only at hb2 hk5 hLk hwk hR
  repeat (first | refine AWp.seq ?_ | refine AWp.block ?_ | refine AWp.skip ?_)
  refine AWp.region ?_
  refine CallX.lend (m_mstep f o J seed k s.C s.w fr L) [(1001, 42), (1002, 33), (1003, 61)] rfl (And.intro rfl (And.intro rfl (And.intro rfl trivial))) rfl ?_
  intro _
  repeat (first | refine AWp.seq ?_ | refine AWp.block ?_ | refine AWp.skip ?_)
  refine AWp.cond (And.intro (fun h4 => ?_) (fun h4 => ?_))
  · have hk0 : k ≠ 0 := fun e => by subst e; exact absurd (of_decide_eq_true h4) (by decide)
    obtain ⟨k, rfl⟩ : ∃ t, k = t + 1 := ⟨k - 1, by omega⟩
    have hw : IntKind.i64.wrap (((k + 1 : Nat) : Int) - 1) = (k : Int) := by rw [wrap_in (by omega) (by omega)]; omega
    rw [hw] at *
    refine AWp.weaken (s' := ⟨[(6, .ptr f.cells), (15, .obj 42 0), (16, .i64 b)], [(42, rnmC f o J seed k s.C s.w 33 fr 61 L.length), (33, rowG fr (fun i => s.C (22 + i))), (61, rowE L)]⟩) ?_ ?_
    · refine And.intro ?_ (And.intro rfl (And.intro ?_ (And.intro ⟨_, _, rfl, rfl, fun i hi => rfl⟩ (And.intro trivial (And.intro ⟨_, _, rfl, rfl, fun i hi => rfl⟩ (And.intro trivial trivial))))))
      all_goals repeat' (first | exact rfl | exact trivial | refine And.intro ?_ ?_)
    have hil : (f.Blocks.getD b default).Instrs.length ≤ maxLen := by have := hz.instrs b hb2; unfold maxLen; omega
    have hbp : b < o.Places.length := by rw [hO.pl]; exact hb2
    repeat (first | refine AWp.seq ?_ | refine AWp.block ?_ | refine AWp.skip ?_)
    refine AWp.region ?_
    intro _
    repeat (first | refine AWp.seq ?_ | refine AWp.block ?_ | refine AWp.skip ?_)
    refine AWp.region ?_
    refine And.intro (fun _ => And.intro (Int.natCast_nonneg _) (Int.ofNat_lt.2 hb2)) ?_
    intro _
    repeat (first | refine AWp.seq ?_ | refine AWp.block ?_ | refine AWp.skip ?_)
    refine AWp.loop (fun t : (Nat × Int) × (Box × List Evt) × Nat => ⟨[(6, .ptr f.cells), (15, .obj 42 0), (16, .i64 b), (17, .i64 t.1.2), (58, .i64 (f.Blocks.getD b default).Instrs.length), (59, .i64 t.2.2)], [(42, rnmC f o J seed t.1.1 t.2.1.1.C t.2.1.1.w 33 fr 61 t.2.1.2.length), (33, rowG fr (fun i => t.2.1.1.C (22 + i))), (61, rowE t.2.1.2)]⟩) (fun t => t.2.2 ≤ (f.Blocks.getD b default).Instrs.length ∧ t.1.1 ≤ k ∧ t.2.1.2.length + t.1.1 ≤ 5000 ∧ t.2.1.1.w + 26 * t.1.1 ≤ 131022 ∧ (t.2.2 = (f.Blocks.getD b default).Instrs.length → 0 < (f.Blocks.getD b default).Edges.length → 0 ≤ t.1.2 ∧ t.1.2 < (f.Blocks.getD b default).Edges.length) ∧ (if t.2.2 < (f.Blocks.getD b default).Instrs.length then outS f o J seed t.1.1 b (t.2.2 + 1) t.2.1.1 t.2.1.2 else conM f o J seed t.1.1 b t.1.2 t.2.1.1 t.2.1.2) = outS f o J seed n 0 0 (boxA m J fr) []) (fun t => (f.Blocks.getD b default).Instrs.length - t.2.2) ((k, 0), (s, L), 0) ⟨Nat.zero_le _, Nat.le_refl _, by show L.length + k ≤ 5000; omega, by show s.w + 26 * k ≤ 131022; omega, fun _ h => ⟨Int.le_refl _, by show (0 : Int) < (f.Blocks.getD b default).Edges.length; omega⟩, by rw [← hR, outS_in]⟩ ?_ ?_
    · refine And.intro ?_ (And.intro rfl (And.intro ?_ (And.intro ⟨_, _, rfl, rfl, fun i hi => rfl⟩ (And.intro trivial (And.intro ⟨_, _, rfl, rfl, fun i hi => rfl⟩ (And.intro trivial trivial))))))
      all_goals repeat' (first | exact rfl | exact trivial | refine And.intro ?_ ?_)
    rintro ⟨⟨k2, ed⟩, ⟨s2, L2⟩, j⟩ ⟨hj, hk2, hL2, hw2, hed, hR2⟩
    simp only at hj hk2 hL2 hw2 hed hR2
    repeat (first | refine AWp.seq ?_ | refine AWp.block ?_ | refine AWp.skip ?_)
    refine AWp.region ?_
    intro _
    repeat (first | refine AWp.seq ?_ | refine AWp.block ?_ | refine AWp.skip ?_)
    refine AWp.cond (And.intro (fun h5 => ?_) (fun h5 => ?_))
    · have hj' : j < (f.Blocks.getD b default).Instrs.length := Int.ofNat_lt.1 (of_decide_eq_true h5)
      rw [if_pos hj'] at hR2
      repeat (first | refine AWp.seq ?_ | refine AWp.block ?_ | refine AWp.skip ?_)
      refine AWp.region ?_
      intro _
      repeat (first | refine AWp.seq ?_ | refine AWp.block ?_ | refine AWp.skip ?_)
      refine AWp.region ?_
      refine CallX.lend (m_mstep f o J seed k2 s2.C s2.w fr L2) [(1001, 42), (1002, 33), (1003, 61)] rfl (And.intro rfl (And.intro rfl (And.intro rfl trivial))) rfl ?_
      intro _
      repeat (first | refine AWp.seq ?_ | refine AWp.block ?_ | refine AWp.skip ?_)
      refine AWp.cond (And.intro (fun h6 => ?_) (fun h6 => ?_))
      · have hk0 : k2 = 0 := Classical.byContradiction fun hn => by
          have hw2 : IntKind.i64.wrap ((k2 : Int) - 1) = (k2 : Int) - 1 := wrap_in (by omega) (by omega)
          have h6 : (!decide (IntKind.i64.wrap ((k2 : Int) - 1) ≥ 0)) = true := h6
          rw [hw2, decide_eq_true (by omega)] at h6
          cases h6
        subst hk0
        rw [outS_zero] at hR2
        rw [← hR2]
        refine AWp.freeze 61 (fun i => evtC (L2.getD i default)) rfl (fun i hi => rfl) ?_
        repeat (first | refine AWp.seq ?_ | refine AWp.block ?_ | refine AWp.skip ?_)
        refine AWp.region ?_
        intro _
        refine AWp.ret ⟨Or.inl rfl, rfl, ?_⟩
        intro _
        rfl
      · have hk0 : k2 ≠ 0 := fun e => by subst e; cases h6
        obtain ⟨k2, rfl⟩ : ∃ t, k2 = t + 1 := ⟨k2 - 1, by omega⟩
        have hw : IntKind.i64.wrap (((k2 + 1 : Nat) : Int) - 1) = (k2 : Int) := by rw [wrap_in (by omega) (by omega)]; omega
        have hL3 : (L2 ++ [fuvA f o J seed b j s2]).length = L2.length + 1 := by simp
        have hiw := inA_w hC (o := o) (J := J) (seed := seed) (s := ⟨edA o b j s2.C, s2.w⟩) hb2 hj'
        refine AWp.weaken (s' := ⟨[(6, .ptr f.cells), (15, .obj 42 0), (16, .i64 b), (18, .i64 j), (58, .i64 (f.Blocks.getD b default).Instrs.length), (59, .i64 j)], [(42, rnmC f o J seed k2 s2.C s2.w 33 fr 61 L2.length), (33, rowG fr (fun i => s2.C (22 + i))), (61, rowE L2)]⟩) ?_ ?_
        · rw [← hw]
          refine And.intro ?_ (And.intro rfl (And.intro ?_ (And.intro ⟨_, _, rfl, rfl, fun i hi => rfl⟩ (And.intro trivial (And.intro ⟨_, _, rfl, rfl, fun i hi => rfl⟩ (And.intro trivial trivial))))))
          all_goals repeat' (first | exact rfl | exact trivial | refine And.intro ?_ ?_)
        repeat (first | refine AWp.seq ?_ | refine AWp.block ?_ | refine AWp.skip ?_)
        refine AWp.region ?_
        refine CallX.lend (m_moves f o hoo J seed k2 s2.C s2.w fr L2 b j hO.mv) [(1001, 42), (1002, 33), (1003, 61)] rfl (And.intro rfl (And.intro rfl (And.intro rfl trivial))) rfl ?_
        intro _
        repeat (first | refine AWp.seq ?_ | refine AWp.block ?_ | refine AWp.skip ?_)
        refine AWp.region ?_
        refine CallX.lend (m_minstr f hC o hoo J hJ seed k2 ⟨edA o b j s2.C, s2.w⟩ fr L2 (by omega) b j hb2 hj' hbp (by rw [hO.row b hb2]; exact hj') (hO.ops b j hb2 hj') (hO.at_ b j · hb2 hj') (hO.spo b j · hb2 hj') (by show s2.w ≤ 900000; omega)) [(1001, 42), (1002, 33), (1003, 61), (225, 225)] rfl (And.intro rfl (And.intro rfl (And.intro rfl trivial))) rfl ?_
        intro _
        refine AWp.rename 225 61 rfl rfl ?_
        repeat (first | refine AWp.seq ?_ | refine AWp.block ?_ | refine AWp.skip ?_)
        refine AWp.region ?_
        intro _
        refine round_end ((k2, takesF seed (f.Blocks.getD b default) j (rdA f o J b j ⟨edA o b j s2.C, s2.w⟩)), (fulA f o J seed b j s2, L2 ++ [fuvA f o J seed b j s2]), j + 1) ⟨hj', by show k2 ≤ k; omega, by show (L2 ++ [fuvA f o J seed b j s2]).length + k2 ≤ 5000; omega, by show (fulA f o J seed b j s2).w + 26 * k2 ≤ 131022; have : (fulA f o J seed b j s2).w ≤ s2.w + 26 := hiw; omega, fun he h0 => takes_lt he h0, by rw [← hR2, outS_at]⟩ ?_ (by show (f.Blocks.getD b default).Instrs.length - (j + 1) < (f.Blocks.getD b default).Instrs.length - j; omega)
        refine And.intro ?_ (And.intro (congrArg (fun q : Nat => some (HO.cells (rnL f o J seed k2 (fulA f o J seed b j s2).C (fulA f o J seed b j s2).w 33 fr 61 q))) hL3.symm) (And.intro ?_ (And.intro ⟨_, _, rfl, rfl, fun i hi => rfl⟩ (And.intro trivial (And.intro ⟨_, _, rfl, rfl, fun i hi => rfl⟩ (And.intro trivial trivial))))))
        all_goals repeat' (first | exact rfl | exact trivial | exact congrArg (fun z => some (AV.i64 z)) (wrap_succ hj' hil) | refine And.intro ?_ ?_)
    · have hj3 : ¬ (j : Int) < (f.Blocks.getD b default).Instrs.length := of_decide_eq_false h5
      have hjE : j = (f.Blocks.getD b default).Instrs.length := by omega
      rw [if_neg (by omega)] at hR2
      refine AWp.exit ?_
      repeat (first | refine AWp.seq ?_ | refine AWp.block ?_ | refine AWp.skip ?_)
      refine AWp.region ?_
      refine And.intro (fun _ => And.intro (Int.natCast_nonneg _) (Int.ofNat_lt.2 hb2)) ?_
      refine CallX.lend (m_moves f o hoo J seed k2 s2.C s2.w fr L2 b (f.Blocks.getD b default).Instrs.length hO.mv) [(1001, 42), (1002, 33), (1003, 61)] rfl (And.intro rfl (And.intro rfl (And.intro rfl trivial))) rfl ?_
      intro _
      repeat (first | refine AWp.seq ?_ | refine AWp.block ?_ | refine AWp.skip ?_)
      refine AWp.region ?_
      refine And.intro (fun _ => And.intro (Int.natCast_nonneg _) (Int.ofNat_lt.2 hb2)) ?_
      intro _
      repeat (first | refine AWp.seq ?_ | refine AWp.block ?_ | refine AWp.skip ?_)
      refine AWp.cond (And.intro (fun h6 => ?_) (fun h6 => ?_))
      · have he0 : (f.Blocks.getD b default).Edges.length = 0 := by simpa using h6
        unfold conM at hR2
        rw [if_pos he0] at hR2
        rw [← hR2]
        refine AWp.exit ?_
        refine AWp.freeze 61 (fun i => evtC (L2.getD i default)) rfl (fun i hi => rfl) ?_
        repeat (first | refine AWp.seq ?_ | refine AWp.block ?_ | refine AWp.skip ?_)
        refine AWp.region ?_
        intro _
        refine AWp.ret ⟨Or.inl rfl, rfl, ?_⟩
        intro _
        rfl
      · have he0 : ¬ (f.Blocks.getD b default).Edges.length = 0 := by simpa using h6
        unfold conM at hR2
        rw [if_neg he0] at hR2
        obtain ⟨he1, he2⟩ := hed hjE (by omega)
        have hen : ed.toNat < (f.Blocks.getD b default).Edges.length := by omega
        have heB := hC.e.edge b ed.toNat hb2 hen
        repeat (first | refine AWp.seq ?_ | refine AWp.block ?_ | refine AWp.skip ?_)
        refine AWp.region ?_
        refine And.intro (fun _ => And.intro (Int.natCast_nonneg _) (Int.ofNat_lt.2 hb2)) ?_
        refine And.intro (fun _ => And.intro he1 he2) ?_
        intro _
        refine Exists.intro ((k2, ((f.Blocks.getD b default).Edges.getD ed.toNat default).Block.toNat), (⟨edA o b (f.Blocks.getD b default).Instrs.length s2.C, s2.w⟩, L2)) (And.intro ⟨by show ((f.Blocks.getD b default).Edges.getD ed.toNat default).Block.toNat < f.Blocks.length; omega, by show k2 ≤ 5000; omega, hL2, hw2, hR2⟩ (And.intro ?_ (by show k2 < k + 1; omega)))
        refine And.intro ?_ (And.intro rfl (And.intro ?_ (And.intro ⟨_, _, rfl, rfl, fun i hi => rfl⟩ (And.intro trivial (And.intro ⟨_, _, rfl, rfl, fun i hi => rfl⟩ (And.intro trivial trivial))))))
        all_goals repeat' (first | exact rfl | exact trivial | exact congrArg (fun z => some (AV.i64 z)) (show ((f.Blocks.getD b default).Edges.getD ed.toNat default).Block = ((((f.Blocks.getD b default).Edges.getD ed.toNat default).Block.toNat : Nat) : Int) from by omega) | refine And.intro ?_ ?_)
  · have hk0 : k = 0 := Classical.byContradiction fun hn => by
      have hw2 : IntKind.i64.wrap ((k : Int) - 1) = (k : Int) - 1 := wrap_in (by omega) (by omega)
      have h4 : decide (IntKind.i64.wrap ((k : Int) - 1) ≥ 0) = false := h4
      rw [hw2, decide_eq_true (by omega)] at h4
      cases h4
    subst hk0
    rw [outS_zero] at hR
    rw [← hR]
    refine AWp.exit ?_
    refine AWp.freeze 61 (fun i => evtC (L.getD i default)) rfl (fun i hi => rfl) ?_
    repeat (first | refine AWp.seq ?_ | refine AWp.block ?_ | refine AWp.skip ?_)
    refine AWp.region ?_
    intro _
    refine AWp.ret ⟨Or.inl rfl, rfl, ?_⟩
    intro _
    rfl
end Go.Proofs.Ytnbgpgbbfjaomaa

/- Contract of the document's OutputRun. Condition: an output that may be; steps and junk within bounds. -/
namespace Go.Proofs.Ytnbgpgbbfjaomaa
open Go Go.Abs Go.RowKit Go.Abs.Gra

theorem rwq {C : Nat → Int} {i u : Nat} {v : Int} : intC (setC C i v u) = if u = i then intC v else intC (C u) := by
  unfold setC; split <;> rfl
set_option maxHeartbeats 16000000 in
theorem c_OutputRun (f : Fun) (m : Mch) (o : Oup) (hok : Fun.ok f) (hoo : Oup.ok o) {fr : Nat} (hO : OutOk f m o fr) (h0 : outF f m o = 0) (seed : Int) (J : List Int) (hJ : J.length ≤ 64) (n : Nat) (hn : n ≤ 5000) : ACallIs B.P 16 [f.av, m.av, o.av, .i64 seed, ints J, .i64 n] (.tup [evtV (outS f o J seed n 0 0 (boxA m J fr) []), .i64 0]) := by
  have hc := c_OutputFault f m o hok hoo
  rw [h0] at hc
  have hC := chkd_of hO.chk0
  have hz := hC.e.siz
  have hb := hz.blocks
  have hfr := hO.small
  have hfm : o.Frame = (fr : Int) := hO.frm
  have hw0 : (boxA m J fr).w ≤ 22 + fr := bgF_w _
  have hnm : n ≤ maxLen := by unfold maxLen; omega
  have hNm : 22 + fr ≤ maxLen := by unfold maxLen; omega
  have hlen := edits_len hoo
  have hW : IntKind.i64.wrap (22 + o.Frame) = ((22 + fr : Nat) : Int) := by rw [hfm, wrap_in (by omega) (by omega)]; omega
  have hN : (IntKind.i64.wrap (22 + o.Frame)).toNat = 22 + fr := by rw [hW]; omega
  refine ACallIs.enter B _ _ Try.func16 rfl rfl Try.ntmps16 Try.results16 rfl fun hreal => ?_
  clear hreal
  repeat (first | refine AWp.seq ?_ | refine AWp.block ?_ | refine AWp.skip ?_)
  refine AWp.region ?_
  intro _
  refine AWp.freezeObj 6 rfl rfl ?_
  refine AWp.freezeObj 7 rfl rfl ?_
  refine AWp.freezeObj 8 rfl rfl ?_
  repeat (first | refine AWp.seq ?_ | refine AWp.block ?_ | refine AWp.skip ?_)
  refine AWp.region ?_
  refine CallX.pure hc rfl rfl rfl ?_
  intro _
  repeat (first | refine AWp.seq ?_ | refine AWp.block ?_ | refine AWp.skip ?_)
  refine AWp.region ?_
  repeat' (first | refine And.intro ?_ ?_ | refine CallK.intro (fun _ => c_In n 0 5000) ?_)
  all_goals first | exact fun h => h | exact gT | exact gF | skip
  intro _
  repeat (first | refine AWp.seq ?_ | refine AWp.block ?_ | refine AWp.skip ?_)
  refine AWp.cond (And.intro (fun h1 => ?_) (fun h1 => ?_))
  · exfalso
    have h1 : (!inB (n : Int) 0 5000) = true := h1
    unfold inB at h1; grind
  repeat (first | refine AWp.seq ?_ | refine AWp.block ?_ | refine AWp.skip ?_)
  refine AWp.region ?_
  repeat' refine And.intro ?_ ?_
  all_goals first | exact fun h => h | exact gT | exact gF | exact gN | skip
  intro _
  repeat (first | refine AWp.seq ?_ | refine AWp.block ?_ | refine AWp.skip ?_)
  refine AWp.cond (And.intro (fun h2 => ?_) (fun h2 => ?_))
  · exfalso
    have h2 : decide ((J.length : Int) > 64) = true := h2
    have := of_decide_eq_true h2; omega
  repeat (first | refine AWp.seq ?_ | refine AWp.block ?_ | refine AWp.skip ?_)
  refine AWp.region ?_
  intro _
  repeat (first | refine AWp.seq ?_ | refine AWp.block ?_ | refine AWp.skip ?_)
  refine AWp.cond (And.intro (fun h3 => ?_) (fun h3 => ?_))
  · cases h3
  repeat (first | refine AWp.seq ?_ | refine AWp.block ?_ | refine AWp.skip ?_)
  refine AWp.region ?_
  refine And.intro rfl (And.intro (by show 0 ≤ IntKind.i64.wrap (22 + o.Frame); rw [hW]; omega) (And.intro (by show 8 * (IntKind.i64.wrap (22 + o.Frame)).toNat ≤ 281474976710656; rw [hN]; omega) ?_))
  intro _
  repeat (first | refine AWp.seq ?_ | refine AWp.block ?_ | refine AWp.skip ?_)
  refine AWp.region ?_
  intro _
  repeat (first | refine AWp.seq ?_ | refine AWp.block ?_ | refine AWp.skip ?_)
  refine AWp.region ?_
  intro _
  repeat (first | refine AWp.seq ?_ | refine AWp.block ?_ | refine AWp.skip ?_)
  refine AWp.loop (fun c : Nat => ⟨[(3, .i64 seed), (4, ints J), (5, .i64 n), (6, .ptr f.cells), (7, .ptr m.cells), (8, .ptr o.cells), (15, .sl 62 (22 + fr)), (16, .i64 (bgF m J c).w), (17, .i64 c)], [(62, rowG (22 + fr) (bgF m J c).C)]⟩) (fun c => c ≤ 22 + fr) (fun c => 22 + fr - c) 0 (Nat.zero_le _) ?_ ?_
  · refine And.intro ?_ (And.intro ⟨_, _, rfl, hN, fun u hu => rfl⟩ (And.intro trivial trivial))
    all_goals repeat' (first | exact rfl | exact trivial | exact congrArg (fun z => some (AV.sl 62 z)) hN | refine And.intro ?_ ?_)
  intro c hcc
  repeat (first | refine AWp.seq ?_ | refine AWp.block ?_ | refine AWp.skip ?_)
  refine AWp.region ?_
  intro _
  repeat (first | refine AWp.seq ?_ | refine AWp.block ?_ | refine AWp.skip ?_)
  refine AWp.cond (And.intro (fun h4 => ?_) (fun h4 => ?_))
  · have hc' : c < 22 + fr := Int.ofNat_lt.1 (of_decide_eq_true h4)
    have hw := bgF_w (m := m) (J := J) c
    have hq : IntKind.i64.wrap ((c : Int).tdiv 11) = ((c / 11 : Nat) : Int) := by
      rw [Int.tdiv_eq_ediv_of_nonneg (by omega), wrap_in (by omega) (by omega)]; omega
    have hqn : (IntKind.i64.wrap ((c : Int).tdiv 11)).toNat = c / 11 := by rw [hq]; omega
    have hqr : (decide ((c : Int) ≥ 22) == false) = true → 0 ≤ IntKind.i64.wrap ((c : Int).tdiv 11) ∧ IntKind.i64.wrap ((c : Int).tdiv 11) < 2 := fun h => by
      have h : ¬ ((c : Int) ≥ 22) := by simpa using h
      rw [hq]; omega
    have hm : (c : Int).tmod 11 = ((c % 11 : Nat) : Int) := by rw [Int.tmod_eq_emod_of_nonneg (by omega)]; omega
    have hww : IntKind.i64.wrap (((bgF m J c).w : Int) + 1) = (((bgF m J c).w + 1 : Nat) : Int) := by rw [wrap_in (by omega) (by omega)]; omega
    repeat (first | refine AWp.seq ?_ | refine AWp.block ?_ | refine AWp.skip ?_)
    refine AWp.region ?_
    repeat' refine And.intro ?_ ?_

    all_goals first | exact fun h => h | exact gF | exact (by decide) | exact (fun h => hqr h) | skip
    intro _
    repeat (first | refine AWp.seq ?_ | refine AWp.block ?_ | refine AWp.skip ?_)
    refine AWp.cond (And.intro (fun h5 => ?_) (fun h5 => ?_))
    · have hh : 22 ≤ c ∨ ((c % 11 : Nat) : Int) ≤ regF m (c / 11 : Nat) := by
        have h5 : (bif decide ((c : Int) ≥ 22) then true else decide ((c : Int).tmod 11 ≤ [m.r0, m.r1].getD (IntKind.i64.wrap ((c : Int).tdiv 11)).toNat 0)) = true := h5
        rw [hqn, hm] at h5
        by_cases g : (c : Int) ≥ 22
        · exact .inl (by omega)
        · rw [decide_eq_false g] at h5
          exact .inr (of_decide_eq_true h5)
      repeat (first | refine AWp.seq ?_ | refine AWp.block ?_ | refine AWp.skip ?_)
      refine AWp.region ?_
      refine CallX.pure (c_wildOf J (bgF m J c).w (by omega)) rfl rfl rfl ?_
      refine And.intro (fun _ => And.intro (Int.natCast_nonneg _) (Int.ofNat_lt.2 hc')) (And.intro hc' ?_)
      intro _
      repeat (first | refine AWp.seq ?_ | refine AWp.block ?_ | refine AWp.skip ?_)
      refine AWp.region ?_
      intro _
      repeat (first | refine AWp.seq ?_ | refine AWp.block ?_ | refine AWp.skip ?_)
      refine AWp.region ?_
      intro _
      refine round_end (c + 1) hc' ?_ (by omega)
      rw [bgF_yes hh]
      refine And.intro ?_ (And.intro ⟨_, _, rfl, rfl, fun u hu => rwq⟩ (And.intro trivial trivial))
      all_goals repeat' (first | exact rfl | exact trivial | exact congrArg (fun z => some (AV.i64 z)) hww | exact congrArg (fun z => some (AV.i64 z)) (wrap_succ hc' hNm) | refine And.intro ?_ ?_)
    · have hh : ¬ (22 ≤ c ∨ ((c % 11 : Nat) : Int) ≤ regF m (c / 11 : Nat)) := by
        have h5 : (bif decide ((c : Int) ≥ 22) then true else decide ((c : Int).tmod 11 ≤ [m.r0, m.r1].getD (IntKind.i64.wrap ((c : Int).tdiv 11)).toNat 0)) = false := h5
        rw [hqn, hm] at h5
        by_cases g : (c : Int) ≥ 22
        · rw [decide_eq_true g] at h5; cases h5
        · rw [decide_eq_false g] at h5
          have h6 := of_decide_eq_false h5
          rintro (z | z)
          · omega
          · exact h6 z
      repeat (first | refine AWp.seq ?_ | refine AWp.block ?_ | refine AWp.skip ?_)
      refine AWp.region ?_
      intro _
      refine round_end (c + 1) hc' ?_ (by omega)
      rw [bgF_no hh]
      refine And.intro ?_ (And.intro ⟨_, _, rfl, rfl, fun u hu => rfl⟩ (And.intro trivial trivial))
      all_goals repeat' (first | exact rfl | exact trivial | exact congrArg (fun z => some (AV.i64 z)) (wrap_succ hc' hNm) | refine And.intro ?_ ?_)
  have hc3 : ¬ (c : Int) < ((22 + fr : Nat) : Int) := of_decide_eq_false h4
  obtain rfl : c = 22 + fr := by omega
  refine AWp.exit ?_
  repeat (first | refine AWp.seq ?_ | refine AWp.block ?_ | refine AWp.skip ?_)
  refine AWp.region ?_
  intro _
  repeat (first | refine AWp.seq ?_ | refine AWp.block ?_ | refine AWp.skip ?_)
  refine AWp.region ?_
  intro _
  repeat (first | refine AWp.seq ?_ | refine AWp.block ?_ | refine AWp.skip ?_)
  refine AWp.region ?_
  intro _
  repeat (first | refine AWp.seq ?_ | refine AWp.block ?_ | refine AWp.skip ?_)
  refine AWp.region ?_
  intro _
  refine AWp.adopt 18 61 131 4 rfl rfl rfl ?_
  repeat (first | refine AWp.seq ?_ | refine AWp.block ?_ | refine AWp.skip ?_)
  refine AWp.loop (fun z : (Nat × Nat) × Nat × (Box × List Evt) => ⟨[(3, .i64 seed), (4, ints J), (5, .i64 n), (6, .ptr f.cells), (8, .ptr o.cells), (15, .sl 62 (22 + fr)), (16, .i64 z.2.2.1.w), (18, .sl 61 z.2.2.2.length), (19, .i64 z.1.2), (20, .i64 ((z.2.1 : Int) - 1)), (21, .i64 z.1.1)], [(62, rowG (22 + fr) z.2.2.1.C), (61, rowE z.2.2.2)]⟩) (fun z => z.1.2 < f.Blocks.length ∧ z.1.1 ≤ n ∧ z.2.2.2.length ≤ z.1.1 ∧ z.2.2.1.w ≤ 1022 + 26 * z.1.1 ∧ (z.2.1 = 0 ∨ z.2.1 ≤ (f.Blocks.getD z.1.2 default).Instrs.length) ∧ outS f o J seed (n - z.1.1) z.1.2 z.2.1 z.2.2.1 z.2.2.2 = outS f o J seed n 0 0 (boxA m J fr) []) (fun z => n - z.1.1) ((0, 0), 0, (boxA m J fr, [])) ⟨by show 0 < f.Blocks.length; omega, Nat.zero_le _, Nat.le_refl _, by show (boxA m J fr).w ≤ 1022 + 26 * 0; omega, Or.inl rfl, rfl⟩ ?_ ?_
  · refine And.intro ?_ (And.intro ⟨_, _, rfl, rfl, fun i hi => rfl⟩ (And.intro trivial (And.intro ⟨_, _, rfl, rfl, fun i hi => absurd hi (Nat.not_lt_zero _)⟩ (And.intro trivial trivial))))
    all_goals repeat' (first | exact rfl | exact trivial | refine And.intro ?_ ?_)
  rintro ⟨⟨t, b⟩, p, ⟨s, L⟩⟩ ⟨hb2, ht, hLt, hwt, hp, hR⟩
  simp only at hb2 ht hLt hwt hp hR
  repeat (first | refine AWp.seq ?_ | refine AWp.block ?_ | refine AWp.skip ?_)
  refine AWp.region ?_
  intro _
  repeat (first | refine AWp.seq ?_ | refine AWp.block ?_ | refine AWp.skip ?_)
  refine AWp.cond (And.intro (fun h3 => ?_) (fun h3 => ?_))
  · have ht' : t < n := Int.ofNat_lt.1 (of_decide_eq_true h3)
    have hnk : n - t = n - (t + 1) + 1 := by omega
    have hbp : b < o.Places.length := by rw [hO.pl]; exact hb2
    rw [hnk] at hR
    repeat (first | refine AWp.seq ?_ | refine AWp.block ?_ | refine AWp.skip ?_)
    refine AWp.region ?_
    refine And.intro (fun _ => And.intro (Int.natCast_nonneg _) (Int.ofNat_lt.2 hb2)) ?_
    intro _
    refine AWp.freezeObj 22 rfl rfl ?_
    repeat (first | refine AWp.seq ?_ | refine AWp.block ?_ | refine AWp.skip ?_)
    refine AWp.region ?_
    intro _
    repeat (first | refine AWp.seq ?_ | refine AWp.block ?_ | refine AWp.skip ?_)
    refine AWp.region ?_
    intro _
    repeat (first | refine AWp.seq ?_ | refine AWp.block ?_ | refine AWp.skip ?_)
    refine AWp.mono (Q := fun e z => e = .normal ∧ ∃ (ed : Int) (s2 : Box) (L2 : List Evt), (L2.length ≤ t + 1 ∧ s2.w ≤ 1022 + 26 * (t + 1) ∧ (p = (f.Blocks.getD b default).Instrs.length → 0 < (f.Blocks.getD b default).Edges.length → 0 ≤ ed ∧ ed < (f.Blocks.getD b default).Edges.length) ∧ (if p < (f.Blocks.getD b default).Instrs.length then outS f o J seed (n - (t + 1)) b (p + 1) s2 L2 else conM f o J seed (n - (t + 1)) b ed s2 L2) = outS f o J seed n 0 0 (boxA m J fr) []) ∧ Sub ⟨[(3, .i64 seed), (4, ints J), (5, .i64 n), (6, .ptr f.cells), (8, .ptr o.cells), (15, .sl 62 (22 + fr)), (16, .i64 s2.w), (18, .sl 323 L2.length), (19, .i64 b), (20, .i64 ((p : Int) - 1)), (21, .i64 t), (22, .ptr (f.Blocks.getD b default).cells), (23, .i64 ed)], [(62, rowG (22 + fr) s2.C), (323, rowE L2)]⟩ z) ?_ ?_
    · repeat (first | refine AWp.seq ?_ | refine AWp.block ?_ | refine AWp.skip ?_)
      refine AWp.cond (And.intro (fun h4 => ?_) (fun h4 => ?_))
      · obtain ⟨q, rfl⟩ : ∃ q, p = q + 1 := ⟨p - 1, by have h4 : decide ((p : Int) - 1 ≥ 0) = true := h4; have := of_decide_eq_true h4; omega⟩
        have hq : q < (f.Blocks.getD b default).Instrs.length := by omega
        have hqp : q < (o.Places.getD b default).length := by rw [hO.row b hb2]; exact hq
        have hpl := hO.ops b q hb2 hq
        have hop : (insAt f b q).Operands.length ≤ 6 := hz.ops b q hb2 hq
        have hspl : (insAt f b q).Spoils.length ≤ 20 := hz.spo b q hb2 hq
        have hom : (insAt f b q).Operands.length ≤ maxLen := by unfold maxLen; omega
        have hpm : (plAt o b q).length ≤ maxLen := by rw [hpl]; exact hom
        have hsm : (insAt f b q).Spoils.length ≤ maxLen := by unfold maxLen; omega
        have hLl : (L ++ [fuvA f o J seed b q s]).length = L.length + 1 := by simp
        rw [outS_at] at hR
        repeat (first | refine AWp.seq ?_ | refine AWp.block ?_ | refine AWp.skip ?_)
        refine AWp.region ?_
        intro _
        repeat (first | refine AWp.seq ?_ | refine AWp.block ?_ | refine AWp.skip ?_)
        refine AWp.loop (fun i : Nat => ⟨[(3, .i64 seed), (4, ints J), (5, .i64 n), (6, .ptr f.cells), (8, .ptr o.cells), (15, .sl 62 (22 + fr)), (18, .sl 61 L.length), (19, .i64 b), (20, .i64 q), (21, .i64 t), (22, .ptr (f.Blocks.getD b default).cells), (16, .i64 s.w), (23, .i64 0), (24, .i64 i)], [(62, rowG (22 + fr) (edF o.Edits b q s.C i)), (61, rowE L)]⟩) (fun i => i ≤ o.Edits.length) (fun i => o.Edits.length - i) 0 (Nat.zero_le _) ?_ ?_
        · refine And.intro ?_ (And.intro ⟨_, _, rfl, rfl, fun u hu => rfl⟩ (And.intro trivial (And.intro ⟨_, _, rfl, rfl, fun u hu => rfl⟩ (And.intro trivial trivial))))
          all_goals repeat' (first | exact rfl | exact trivial | exact congrArg (fun z => some (AV.i64 z)) ((show (((q + 1 : Nat) : Int) - 1) = (q : Int) from by omega)) | refine And.intro ?_ ?_)
        intro i hi
        repeat (first | refine AWp.seq ?_ | refine AWp.block ?_ | refine AWp.skip ?_)
        refine AWp.region ?_
        intro _
        repeat (first | refine AWp.seq ?_ | refine AWp.block ?_ | refine AWp.skip ?_)
        refine AWp.cond (And.intro (fun g1 => ?_) (fun g1 => ?_))
        · have hi' : i < o.Edits.length := Int.ofNat_lt.1 (of_decide_eq_true g1)
          have hml := moves_len hoo hi'
          have hmx : (o.Edits.getD i default).Moves.length ≤ maxLen := by unfold maxLen; omega
          repeat (first | refine AWp.seq ?_ | refine AWp.block ?_ | refine AWp.skip ?_)
          refine AWp.region ?_
          intro _
          repeat (first | refine AWp.seq ?_ | refine AWp.block ?_ | refine AWp.skip ?_)
          refine AWp.loop (fun k : Nat => ⟨[(3, .i64 seed), (4, ints J), (5, .i64 n), (6, .ptr f.cells), (8, .ptr o.cells), (15, .sl 62 (22 + fr)), (18, .sl 61 L.length), (19, .i64 b), (20, .i64 q), (21, .i64 t), (22, .ptr (f.Blocks.getD b default).cells), (16, .i64 s.w), (23, .i64 0), (24, .i64 i), (25, .i64 k)], [(62, rowG (22 + fr) (mvF (o.Edits.getD i default) (edF o.Edits b q s.C i) k)), (61, rowE L)]⟩) (fun k => k ≤ (o.Edits.getD i default).Moves.length ∧ (k = 0 ∨ ((o.Edits.getD i default).Block = b ∧ (o.Edits.getD i default).At = ((q : Nat) : Int)))) (fun k => (o.Edits.getD i default).Moves.length - k) 0 ⟨Nat.zero_le _, .inl rfl⟩ ?_ ?_
          · refine And.intro ?_ (And.intro ⟨_, _, rfl, rfl, fun u hu => rfl⟩ (And.intro trivial (And.intro ⟨_, _, rfl, rfl, fun u hu => rfl⟩ (And.intro trivial trivial))))
            all_goals repeat' (first | exact rfl | exact trivial | refine And.intro ?_ ?_)
          rintro k ⟨hk, hkm⟩
          repeat (first | refine AWp.seq ?_ | refine AWp.block ?_ | refine AWp.skip ?_)
          refine AWp.region ?_
          repeat' refine And.intro ?_ ?_
          all_goals first | exact fun _ => And.intro (Int.natCast_nonneg _) (Int.ofNat_lt.2 hi') | exact fun h => h | exact gT | exact gF | exact gN | exact gA | skip
          intro _
          repeat (first | refine AWp.seq ?_ | refine AWp.block ?_ | refine AWp.skip ?_)
          refine AWp.cond (And.intro (fun g2 => ?_) (fun g2 => ?_))
          · have hh : k < (o.Edits.getD i default).Moves.length ∧ (o.Edits.getD i default).Block = b ∧ (o.Edits.getD i default).At = (q : Nat) := by clear hml hmx; simp only [bif_if, Int.toNat_natCast] at g2; grind
            obtain ⟨hk', hB⟩ := hh
            obtain ⟨hF, hT⟩ := hO.mv i k hi' hk'
            have hFl := hF.lt
            have hTl := hT.lt
            repeat (first | refine AWp.seq ?_ | refine AWp.block ?_ | refine AWp.skip ?_)
            refine AWp.region ?_
            repeat' refine And.intro ?_ ?_
            all_goals first | exact fun _ => And.intro (Int.natCast_nonneg _) (Int.ofNat_lt.2 hi') | exact fun _ => And.intro (Int.natCast_nonneg _) (Int.ofNat_lt.2 hk') | exact fun h => h | exact gT | exact gF | exact gN | exact gA | skip
            intro _
            refine AWp.freezeObj 26 rfl rfl ?_
            repeat (first | refine AWp.seq ?_ | refine AWp.block ?_ | refine AWp.skip ?_)
            refine AWp.quietP (.q 0 (.q 1 (.q 2 (.q 4 (.q 5 (.q 6 (.c 3 false (.c 7 false (.q 8 (.c 9 false (.q 10 (.c 11 true .fin .no)) .no)) .no) .no))))))) [0, 1, 2, 4, 5, 6, 8, 10] [] mixed (by kernel_rfl) ?_
            repeat' (first | exact trivial | refine And.intro ?_ ?_ | refine CallX.pure (c_cellOf hfr hF) rfl rfl rfl ?_ | refine CallX.pure (c_cellOf hfr hT) rfl rfl rfl ?_ | fail)
            all_goals first | exact fun _ => And.intro (Int.natCast_nonneg _) (Int.ofNat_lt.2 hFl) | exact fun _ => And.intro (Int.natCast_nonneg _) (Int.ofNat_lt.2 hTl) | exact fun _ => hFl | exact hTl | skip
            intro _
            repeat (first | refine AWp.seq ?_ | refine AWp.block ?_ | refine AWp.skip ?_)
            refine AWp.region ?_
            intro _
            refine round_end (k + 1) ⟨hk', .inr hB⟩ ?_ (by omega)
            refine And.intro ?_ (And.intro ⟨_, _, rfl, rfl, fun u hu => rwq⟩ (And.intro trivial (And.intro ⟨_, _, rfl, rfl, fun u hu => rfl⟩ (And.intro trivial trivial))))
            all_goals repeat' (first | exact rfl | exact trivial | exact congrArg (fun z => some (AV.i64 z)) (wrap_succ hk' hmx) | refine And.intro ?_ ?_)
          have hE : edF o.Edits b q s.C (i + 1) = mvF (o.Edits.getD i default) (edF o.Edits b q s.C i) k := by
            have hh : ¬ (k < (o.Edits.getD i default).Moves.length ∧ (o.Edits.getD i default).Block = b ∧ (o.Edits.getD i default).At = (q : Nat)) := by clear hml hmx; simp only [bif_if, Int.toNat_natCast] at g2; grind
            by_cases hm : (o.Edits.getD i default).Block = b ∧ (o.Edits.getD i default).At = (q : Nat)
            · rw [edF_yes hm, show k = (o.Edits.getD i default).Moves.length from Nat.le_antisymm hk (Nat.le_of_not_lt fun z => hh ⟨z, hm⟩)]
            · rw [edF_no hm, hkm.resolve_right hm]; rfl
          refine AWp.exit ?_
          repeat (first | refine AWp.seq ?_ | refine AWp.block ?_ | refine AWp.skip ?_)
          refine AWp.region ?_
          intro _
          refine round_end (i + 1) hi' ?_ (by omega)
          rw [hE]
          refine And.intro ?_ (And.intro ⟨_, _, rfl, rfl, fun u hu => rfl⟩ (And.intro trivial (And.intro ⟨_, _, rfl, rfl, fun u hu => rfl⟩ (And.intro trivial trivial))))
          all_goals repeat' (first | exact rfl | exact trivial | exact congrArg (fun z => some (AV.i64 z)) (wrap_succ hi' hlen) | refine And.intro ?_ ?_)
        have hi3 : ¬ (i : Int) < o.Edits.length := of_decide_eq_false g1
        obtain rfl : i = o.Edits.length := by omega
        clear hi hi3 g1
        refine AWp.exit ?_
        repeat (first | refine AWp.seq ?_ | refine AWp.block ?_ | refine AWp.skip ?_)
        refine AWp.region ?_
        refine And.intro (fun _ => And.intro (Int.natCast_nonneg _) (Int.ofNat_lt.2 hq)) ?_
        intro _
        refine AWp.freezeObj 27 rfl rfl ?_
        repeat (first | refine AWp.seq ?_ | refine AWp.block ?_ | refine AWp.skip ?_)
        refine AWp.region ?_
        refine And.intro (fun _ => And.intro (Int.natCast_nonneg _) (Int.ofNat_lt.2 hbp)) (And.intro (fun _ => And.intro (Int.natCast_nonneg _) (Int.ofNat_lt.2 hqp)) ?_)
        intro _
        repeat (first | refine AWp.seq ?_ | refine AWp.block ?_ | refine AWp.skip ?_)
        refine AWp.region ?_
        refine CallX.lend (m_joinedInts (22 + fr) (edA o b q s.C) (by omega)) [(1001, 62), (101, 101)] rfl (And.intro rfl trivial) rfl ?_
        intro _
        refine AWp.freeze 101 (fun u => intC (edA o b q s.C u)) rfl (fun u hu => rfl) ?_
        repeat (first | refine AWp.seq ?_ | refine AWp.block ?_ | refine AWp.skip ?_)
        refine AWp.region ?_
        intro _
        repeat (first | refine AWp.seq ?_ | refine AWp.block ?_ | refine AWp.skip ?_)
        refine AWp.loop (fun k : Nat => ⟨[(3, .i64 seed), (4, ints J), (5, .i64 n), (6, .ptr f.cells), (8, .ptr o.cells), (15, .sl 62 (22 + fr)), (18, .sl 61 L.length), (19, .i64 b), (20, .i64 q), (21, .i64 t), (22, .ptr (f.Blocks.getD b default).cells), (27, .ptr (insAt f b q).cells), (28, roL 3 Plc.cells (plAt o b q)), (29, .ro 1 (22 + fr) (fun u => intC (edA o b q s.C u))), (16, .i64 (dwF J (insAt f b q) (plAt o b q) ⟨edA o b q s.C, s.w⟩ k).w), (23, .i64 0), (30, .i64 k)], [(62, rowG (22 + fr) (dwF J (insAt f b q) (plAt o b q) ⟨edA o b q s.C, s.w⟩ k).C), (61, rowE L)]⟩) (fun k => k ≤ (plAt o b q).length) (fun k => (plAt o b q).length - k) 0 (Nat.zero_le _) ?_ ?_
        · refine And.intro ?_ (And.intro ⟨_, _, rfl, rfl, fun u hu => rfl⟩ (And.intro trivial (And.intro ⟨_, _, rfl, rfl, fun u hu => rfl⟩ (And.intro trivial trivial))))
          all_goals repeat' (first | exact rfl | exact trivial | refine And.intro ?_ ?_)
        intro k hk
        repeat (first | refine AWp.seq ?_ | refine AWp.block ?_ | refine AWp.skip ?_)
        refine AWp.region ?_
        intro _
        repeat (first | refine AWp.seq ?_ | refine AWp.block ?_ | refine AWp.skip ?_)
        refine AWp.cond (And.intro (fun h5 => ?_) (fun h5 => ?_))
        · have hk' : k < (plAt o b q).length := Int.ofNat_lt.1 (of_decide_eq_true h5)
          have hkO : k < (insAt f b q).Operands.length := by rw [← hpl]; exact hk'
          have hP := hO.at_ b q k hb2 hq hkO
          have hPl := hP.lt
          have hwi : (dwF J (insAt f b q) (plAt o b q) ⟨edA o b q s.C, s.w⟩ k).w ≤ s.w + k := dwF_w (J := J) (x := (insAt f b q)) (p := (plAt o b q)) (s := ⟨edA o b q s.C, s.w⟩) k
          have hww : IntKind.i64.wrap (((dwF J (insAt f b q) (plAt o b q) ⟨edA o b q s.C, s.w⟩ k).w : Int) + 1) = (((dwF J (insAt f b q) (plAt o b q) ⟨edA o b q s.C, s.w⟩ k).w + 1 : Nat) : Int) := by rw [wrap_in (by omega) (by omega)]; omega
          repeat (first | refine AWp.seq ?_ | refine AWp.block ?_ | refine AWp.skip ?_)
          refine AWp.region ?_
          repeat' refine And.intro ?_ ?_
          all_goals first | exact fun _ => And.intro (Int.natCast_nonneg _) (Int.ofNat_lt.2 hkO) | exact fun h => h | exact gT | exact gF | exact gN | exact gA | skip
          intro _
          repeat (first | refine AWp.seq ?_ | refine AWp.block ?_ | refine AWp.skip ?_)
          refine AWp.cond (And.intro (fun h6 => ?_) (fun h6 => ?_))
          · have hd : ((insAt f b q).Operands.getD k default).Kind = 2 ∧ ((insAt f b q).Operands.getD k default).Late = false := by (try simp only [bif_if, Int.toNat_natCast] at h6); grind
            repeat (first | refine AWp.seq ?_ | refine AWp.block ?_ | refine AWp.skip ?_)
            refine AWp.region ?_
            repeat' (first | exact trivial | refine And.intro ?_ ?_ | refine CallX.pure (c_cellOf hfr hP) rfl rfl rfl ?_ | refine CallX.pure (c_wildOf J (dwF J (insAt f b q) (plAt o b q) ⟨edA o b q s.C, s.w⟩ k).w (by omega)) rfl rfl rfl ?_ | fail)
            all_goals first | exact fun _ => And.intro (Int.natCast_nonneg _) (Int.ofNat_lt.2 hk') | exact fun _ => And.intro (Int.natCast_nonneg _) (Int.ofNat_lt.2 hPl) | exact hPl | skip
            intro _
            repeat (first | refine AWp.seq ?_ | refine AWp.block ?_ | refine AWp.skip ?_)
            refine AWp.region ?_
            intro _
            repeat (first | refine AWp.seq ?_ | refine AWp.block ?_ | refine AWp.skip ?_)
            refine AWp.region ?_
            intro _
            refine round_end (k + 1) hk' ?_ (by omega)
            rw [dwF_yes hd]
            refine And.intro ?_ (And.intro ⟨_, _, rfl, rfl, fun u hu => rwq⟩ (And.intro trivial (And.intro ⟨_, _, rfl, rfl, fun u hu => rfl⟩ (And.intro trivial trivial))))
            all_goals repeat' (first | exact rfl | exact trivial | exact congrArg (fun z => some (AV.i64 z)) (hww) | exact congrArg (fun z => some (AV.i64 z)) (wrap_succ hk' hpm) | refine And.intro ?_ ?_)
          · have hd : ¬ (((insAt f b q).Operands.getD k default).Kind = 2 ∧ ((insAt f b q).Operands.getD k default).Late = false) := by (try simp only [bif_if, Int.toNat_natCast] at h6); grind
            repeat (first | refine AWp.seq ?_ | refine AWp.block ?_ | refine AWp.skip ?_)
            refine AWp.region ?_
            intro _
            refine round_end (k + 1) hk' ?_ (by omega)
            rw [dwF_no hd]
            refine And.intro ?_ (And.intro ⟨_, _, rfl, rfl, fun u hu => rfl⟩ (And.intro trivial (And.intro ⟨_, _, rfl, rfl, fun u hu => rfl⟩ (And.intro trivial trivial))))
            all_goals repeat' (first | exact rfl | exact trivial | exact congrArg (fun z => some (AV.i64 z)) (wrap_succ hk' hpm) | refine And.intro ?_ ?_)
        have hk3 : ¬ (k : Int) < (plAt o b q).length := of_decide_eq_false h5
        obtain rfl : k = (plAt o b q).length := by omega
        clear hk hk3 h5
        refine AWp.exit ?_
        rw [hpl]
        have hw2 : (dwF J (insAt f b q) (plAt o b q) ⟨edA o b q s.C, s.w⟩ (insAt f b q).Operands.length).w ≤ s.w + (insAt f b q).Operands.length := dwF_w (J := J) (x := (insAt f b q)) (p := (plAt o b q)) (s := ⟨edA o b q s.C, s.w⟩) (insAt f b q).Operands.length
        repeat (first | refine AWp.seq ?_ | refine AWp.block ?_ | refine AWp.skip ?_)
        refine AWp.region ?_
        intro _
        repeat (first | refine AWp.seq ?_ | refine AWp.block ?_ | refine AWp.skip ?_)
        refine AWp.loop (fun k : Nat => ⟨[(3, .i64 seed), (4, ints J), (5, .i64 n), (6, .ptr f.cells), (8, .ptr o.cells), (15, .sl 62 (22 + fr)), (18, .sl 61 L.length), (19, .i64 b), (20, .i64 q), (21, .i64 t), (22, .ptr (f.Blocks.getD b default).cells), (27, .ptr (insAt f b q).cells), (28, roL 3 Plc.cells (plAt o b q)), (29, .ro 1 (22 + fr) (fun u => intC (edA o b q s.C u))), (16, .i64 (spF J (insAt f b q).Spoils (dwF J (insAt f b q) (plAt o b q) ⟨edA o b q s.C, s.w⟩ (insAt f b q).Operands.length) k).w), (23, .i64 0), (31, .i64 k)], [(62, rowG (22 + fr) (spF J (insAt f b q).Spoils (dwF J (insAt f b q) (plAt o b q) ⟨edA o b q s.C, s.w⟩ (insAt f b q).Operands.length) k).C), (61, rowE L)]⟩) (fun k => k ≤ (insAt f b q).Spoils.length) (fun k => (insAt f b q).Spoils.length - k) 0 (Nat.zero_le _) ?_ ?_
        · refine And.intro ?_ (And.intro ⟨_, _, rfl, rfl, fun u hu => rfl⟩ (And.intro trivial (And.intro ⟨_, _, rfl, rfl, fun u hu => rfl⟩ (And.intro trivial trivial))))
          all_goals repeat' (first | exact rfl | exact trivial | refine And.intro ?_ ?_)
        intro k hk
        repeat (first | refine AWp.seq ?_ | refine AWp.block ?_ | refine AWp.skip ?_)
        refine AWp.region ?_
        intro _
        repeat (first | refine AWp.seq ?_ | refine AWp.block ?_ | refine AWp.skip ?_)
        refine AWp.cond (And.intro (fun h5 => ?_) (fun h5 => ?_))
        · have hk' : k < (insAt f b q).Spoils.length := Int.ofNat_lt.1 (of_decide_eq_true h5)
          obtain ⟨hc1, hc2⟩ := hO.spo b q k hb2 hq hk'
          have hwi : (spF J (insAt f b q).Spoils (dwF J (insAt f b q) (plAt o b q) ⟨edA o b q s.C, s.w⟩ (insAt f b q).Operands.length) k).w = (dwF J (insAt f b q) (plAt o b q) ⟨edA o b q s.C, s.w⟩ (insAt f b q).Operands.length).w + k := spF_w (J := J) (l := (insAt f b q).Spoils) (s := (dwF J (insAt f b q) (plAt o b q) ⟨edA o b q s.C, s.w⟩ (insAt f b q).Operands.length)) k
          have hww : IntKind.i64.wrap (((spF J (insAt f b q).Spoils (dwF J (insAt f b q) (plAt o b q) ⟨edA o b q s.C, s.w⟩ (insAt f b q).Operands.length) k).w : Int) + 1) = (((spF J (insAt f b q).Spoils (dwF J (insAt f b q) (plAt o b q) ⟨edA o b q s.C, s.w⟩ (insAt f b q).Operands.length) k).w + 1 : Nat) : Int) := by rw [wrap_in (by omega) (by omega)]; omega
          have hWr : IntKind.i64.wrap (IntKind.i64.wrap (11 * ((insAt f b q).Spoils.getD k default).Class) + ((insAt f b q).Spoils.getD k default).N) = ((11 * ((insAt f b q).Spoils.getD k default).Class.toNat + ((insAt f b q).Spoils.getD k default).N.toNat : Nat) : Int) := by rw [wrap_in (n := 11 * ((insAt f b q).Spoils.getD k default).Class) (by omega) (by omega), wrap_in (by omega) (by omega)]; omega
          have hWn : (IntKind.i64.wrap (IntKind.i64.wrap (11 * ((insAt f b q).Spoils.getD k default).Class) + ((insAt f b q).Spoils.getD k default).N)).toNat = 11 * ((insAt f b q).Spoils.getD k default).Class.toNat + ((insAt f b q).Spoils.getD k default).N.toNat := by rw [hWr]; omega
          repeat (first | refine AWp.seq ?_ | refine AWp.block ?_ | refine AWp.skip ?_)
          refine AWp.quietP (.q 0 (.q 1 (.q 2 (.q 3 (.q 4 (.q 5 (.q 6 (.q 7 (.q 8 (.q 9 (.q 10 (.q 11 (.q 12 (.q 13 (.q 14 (.q 15 (.q 16 (.c 17 false (.q 18 (.c 19 true .fin .no)) .no)))))))))))))))))) [0, 1, 2, 3, 4, 5, 6, 7, 8, 9, 10, 11, 12, 13, 14, 15, 16, 18] [] mixed (by kernel_rfl) ?_
          repeat' (first | exact trivial | refine And.intro ?_ ?_ | refine CallX.pure (c_wildOf J (spF J (insAt f b q).Spoils (dwF J (insAt f b q) (plAt o b q) ⟨edA o b q s.C, s.w⟩ (insAt f b q).Operands.length) k).w (by omega)) rfl rfl rfl ?_ | fail)
          all_goals first | exact fun _ => And.intro (Int.natCast_nonneg _) (Int.ofNat_lt.2 hk') | exact (fun _ => by show 0 ≤ IntKind.i64.wrap (IntKind.i64.wrap (11 * ((insAt f b q).Spoils.getD k default).Class) + ((insAt f b q).Spoils.getD k default).N) ∧ IntKind.i64.wrap (IntKind.i64.wrap (11 * ((insAt f b q).Spoils.getD k default).Class) + ((insAt f b q).Spoils.getD k default).N) < ((22 + fr : Nat) : Int); rw [hWr]; omega) | exact (by show (IntKind.i64.wrap (IntKind.i64.wrap (11 * ((insAt f b q).Spoils.getD k default).Class) + ((insAt f b q).Spoils.getD k default).N)).toNat < 22 + fr; rw [hWn]; omega) | skip
          intro _
          repeat (first | refine AWp.seq ?_ | refine AWp.block ?_ | refine AWp.skip ?_)
          refine AWp.region ?_
          intro _
          repeat (first | refine AWp.seq ?_ | refine AWp.block ?_ | refine AWp.skip ?_)
          refine AWp.region ?_
          intro _
          refine round_end (k + 1) hk' ?_ (by omega)
          refine And.intro ?_ (And.intro ⟨_, _, rfl, rfl, fun u hu => ?_⟩ (And.intro trivial (And.intro ⟨_, _, rfl, rfl, fun u hu => rfl⟩ (And.intro trivial trivial))))
          all_goals first | (show intC (setC (spF J (insAt f b q).Spoils (dwF J (insAt f b q) (plAt o b q) ⟨edA o b q s.C, s.w⟩ (insAt f b q).Operands.length) k).C (11 * ((insAt f b q).Spoils.getD k default).Class.toNat + ((insAt f b q).Spoils.getD k default).N.toNat) (wildF J (spF J (insAt f b q).Spoils (dwF J (insAt f b q) (plAt o b q) ⟨edA o b q s.C, s.w⟩ (insAt f b q).Operands.length) k).w) u) = if u = (IntKind.i64.wrap (IntKind.i64.wrap (11 * ((insAt f b q).Spoils.getD k default).Class) + ((insAt f b q).Spoils.getD k default).N)).toNat then intC (wildF J (spF J (insAt f b q).Spoils (dwF J (insAt f b q) (plAt o b q) ⟨edA o b q s.C, s.w⟩ (insAt f b q).Operands.length) k).w) else intC ((spF J (insAt f b q).Spoils (dwF J (insAt f b q) (plAt o b q) ⟨edA o b q s.C, s.w⟩ (insAt f b q).Operands.length) k).C u); rw [hWn]; exact rwq) | (repeat' (first | exact rfl | exact trivial | exact congrArg (fun z => some (AV.i64 z)) (hww) | exact congrArg (fun z => some (AV.i64 z)) (wrap_succ hk' hsm) | refine And.intro ?_ ?_))
        have hk3 : ¬ (k : Int) < (insAt f b q).Spoils.length := of_decide_eq_false h5
        obtain rfl : k = (insAt f b q).Spoils.length := by omega
        clear hk hk3 h5
        refine AWp.exit ?_
        repeat (first | refine AWp.seq ?_ | refine AWp.block ?_ | refine AWp.skip ?_)
        refine AWp.region ?_
        intro _
        refine AWp.adopt 32 63 3 1 rfl rfl rfl ?_
        repeat (first | refine AWp.seq ?_ | refine AWp.block ?_ | refine AWp.skip ?_)
        refine AWp.region ?_
        intro _
        clear hw2
        repeat (first | refine AWp.seq ?_ | refine AWp.block ?_ | refine AWp.skip ?_)
        refine AWp.loop (fun k : Nat => ⟨[(3, .i64 seed), (4, ints J), (5, .i64 n), (6, .ptr f.cells), (8, .ptr o.cells), (15, .sl 62 (22 + fr)), (18, .sl 61 L.length), (19, .i64 b), (20, .i64 q), (21, .i64 t), (22, .ptr (f.Blocks.getD b default).cells), (27, .ptr (insAt f b q).cells), (28, roL 3 Plc.cells (plAt o b q)), (29, .ro 1 (22 + fr) (fun u => intC (edA o b q s.C u))), (16, .i64 (spA f o J b q ⟨edA o b q s.C, s.w⟩).w), (23, .i64 0), (32, .sl 63 (rdM (edA o b q s.C) (spA f o J b q ⟨edA o b q s.C, s.w⟩).C (insAt f b q) (plAt o b q) k).length), (33, .i64 k)], [(62, rowG (22 + fr) (spA f o J b q ⟨edA o b q s.C, s.w⟩).C), (61, rowE L), (63, rowG (rdM (edA o b q s.C) (spA f o J b q ⟨edA o b q s.C, s.w⟩).C (insAt f b q) (plAt o b q) k).length (fun u => (rdM (edA o b q s.C) (spA f o J b q ⟨edA o b q s.C, s.w⟩).C (insAt f b q) (plAt o b q) k).getD u default))]⟩) (fun k => k ≤ (plAt o b q).length) (fun k => (plAt o b q).length - k) 0 (Nat.zero_le _) ?_ ?_
        · refine And.intro ?_ (And.intro ⟨_, _, rfl, rfl, fun u hu => rfl⟩ (And.intro trivial (And.intro ⟨_, _, rfl, rfl, fun u hu => rfl⟩ (And.intro trivial (And.intro ⟨_, _, rfl, rfl, fun u hu => absurd hu (Nat.not_lt_zero _)⟩ (And.intro trivial trivial))))))
          all_goals repeat' (first | exact rfl | exact trivial | refine And.intro ?_ ?_)
        intro k hk
        repeat (first | refine AWp.seq ?_ | refine AWp.block ?_ | refine AWp.skip ?_)
        refine AWp.region ?_
        intro _
        repeat (first | refine AWp.seq ?_ | refine AWp.block ?_ | refine AWp.skip ?_)
        refine AWp.cond (And.intro (fun h5 => ?_) (fun h5 => ?_))
        · have hk' : k < (plAt o b q).length := Int.ofNat_lt.1 (of_decide_eq_true h5)
          have hkO : k < (insAt f b q).Operands.length := by rw [← hpl]; exact hk'
          have hP := hO.at_ b q k hb2 hq hkO
          have hPl := hP.lt
          have hrm := rdM_len (C0 := edA o b q s.C) (C2 := (spA f o J b q ⟨edA o b q s.C, s.w⟩).C) (x := (insAt f b q)) (p := (plAt o b q)) k
          repeat (first | refine AWp.seq ?_ | refine AWp.block ?_ | refine AWp.skip ?_)
          refine AWp.region ?_
          repeat' refine And.intro ?_ ?_
          all_goals first | exact fun _ => And.intro (Int.natCast_nonneg _) (Int.ofNat_lt.2 hkO) | exact fun h => h | exact gT | exact gF | exact gN | exact gA | skip
          intro _
          repeat (first | refine AWp.seq ?_ | refine AWp.block ?_ | refine AWp.skip ?_)
          refine AWp.cond (And.intro (fun h6 => ?_) (fun h6 => ?_))
          · have hd : ((insAt f b q).Operands.getD k default).Kind = 1 ∧ ((insAt f b q).Operands.getD k default).Late = true := by (try simp only [bif_if, Int.toNat_natCast] at h6); grind
            obtain ⟨hd1, hd2⟩ := hd
            have hS := rdM_yes (C0 := edA o b q s.C) (C2 := (spA f o J b q ⟨edA o b q s.C, s.w⟩).C) (x := (insAt f b q)) (p := (plAt o b q)) (k := k) hd1
            rw [if_pos hd2] at hS
            have hSl : (rdM (edA o b q s.C) (spA f o J b q ⟨edA o b q s.C, s.w⟩).C (insAt f b q) (plAt o b q) (k + 1)).length = (rdM (edA o b q s.C) (spA f o J b q ⟨edA o b q s.C, s.w⟩).C (insAt f b q) (plAt o b q) k).length + 1 := by rw [hS]; simp
            repeat (first | refine AWp.seq ?_ | refine AWp.block ?_ | refine AWp.skip ?_)
            refine AWp.region ?_
            repeat' (first | exact trivial | refine And.intro ?_ ?_ | refine CallX.pure (c_cellOf hfr hP) rfl rfl rfl ?_ | fail)
            all_goals first | exact fun _ => And.intro (Int.natCast_nonneg _) (Int.ofNat_lt.2 hk') | exact fun _ => And.intro (Int.natCast_nonneg _) (Int.ofNat_lt.2 hPl) | exact fun _ => hPl | exact Nat.le_refl _ | exact rfl | (intro u hu; have e : u = 0 := (by omega); subst e; rfl) | omega | skip
            intro _
            refine AWp.rename 267 63 rfl rfl ?_
            repeat (first | refine AWp.seq ?_ | refine AWp.block ?_ | refine AWp.skip ?_)
            refine AWp.region ?_
            intro _
            refine round_end (k + 1) hk' ?_ (by omega)
            refine And.intro ?_ (And.intro ⟨_, _, rfl, rfl, fun u hu => rfl⟩ (And.intro trivial (And.intro ⟨_, _, rfl, rfl, fun u hu => rfl⟩ (And.intro trivial (And.intro ⟨_, _, rfl, hSl.symm, fun u hu => ?_⟩ (And.intro trivial trivial))))))
            · repeat' (first | exact rfl | exact trivial | exact congrArg (fun n => some (AV.sl 63 n)) hSl.symm | exact congrArg (fun z => some (AV.i64 z)) (wrap_succ hk' hpm) | refine And.intro ?_ ?_)
            · rw [hSl] at hu
              rw [hS]
              exact snocI_row hu
          · have hd : ¬ (((insAt f b q).Operands.getD k default).Kind = 1 ∧ ((insAt f b q).Operands.getD k default).Late = true) := by (try simp only [bif_if, Int.toNat_natCast] at h6); grind
            repeat (first | refine AWp.seq ?_ | refine AWp.block ?_ | refine AWp.skip ?_)
            refine AWp.region ?_
            repeat' refine And.intro ?_ ?_
            all_goals first | exact fun _ => And.intro (Int.natCast_nonneg _) (Int.ofNat_lt.2 hkO) | exact fun h => h | exact gT | exact gF | exact gN | exact gA | skip
            intro _
            repeat (first | refine AWp.seq ?_ | refine AWp.block ?_ | refine AWp.skip ?_)
            refine AWp.cond (And.intro (fun h7 => ?_) (fun h7 => ?_))
            · have hd1 : ((insAt f b q).Operands.getD k default).Kind = 1 := by simpa using h7
              have hd2 : ¬ ((insAt f b q).Operands.getD k default).Late = true := fun z => hd ⟨hd1, z⟩
              have hS := rdM_yes (C0 := edA o b q s.C) (C2 := (spA f o J b q ⟨edA o b q s.C, s.w⟩).C) (x := (insAt f b q)) (p := (plAt o b q)) (k := k) hd1
              rw [if_neg hd2] at hS
              have hSl : (rdM (edA o b q s.C) (spA f o J b q ⟨edA o b q s.C, s.w⟩).C (insAt f b q) (plAt o b q) (k + 1)).length = (rdM (edA o b q s.C) (spA f o J b q ⟨edA o b q s.C, s.w⟩).C (insAt f b q) (plAt o b q) k).length + 1 := by rw [hS]; simp
              repeat (first | refine AWp.seq ?_ | refine AWp.block ?_ | refine AWp.skip ?_)
              refine AWp.region ?_
              repeat' (first | exact trivial | refine And.intro ?_ ?_ | refine CallX.pure (c_cellOf hfr hP) rfl rfl rfl ?_ | fail)
              all_goals first | exact fun _ => And.intro (Int.natCast_nonneg _) (Int.ofNat_lt.2 hk') | exact fun _ => And.intro (Int.natCast_nonneg _) (Int.ofNat_lt.2 hPl) | exact fun _ => hPl | exact Nat.le_refl _ | exact rfl | (intro u hu; have e : u = 0 := (by omega); subst e; rfl) | omega | skip
              intro _
              refine AWp.rename 285 63 rfl rfl ?_
              repeat (first | refine AWp.seq ?_ | refine AWp.block ?_ | refine AWp.skip ?_)
              refine AWp.region ?_
              intro _
              refine round_end (k + 1) hk' ?_ (by omega)
              refine And.intro ?_ (And.intro ⟨_, _, rfl, rfl, fun u hu => rfl⟩ (And.intro trivial (And.intro ⟨_, _, rfl, rfl, fun u hu => rfl⟩ (And.intro trivial (And.intro ⟨_, _, rfl, hSl.symm, fun u hu => ?_⟩ (And.intro trivial trivial))))))
              · repeat' (first | exact rfl | exact trivial | exact congrArg (fun n => some (AV.sl 63 n)) hSl.symm | exact congrArg (fun z => some (AV.i64 z)) (wrap_succ hk' hpm) | refine And.intro ?_ ?_)
              · rw [hSl] at hu
                rw [hS]
                exact snocI_row hu
            · have hd1 : ¬ ((insAt f b q).Operands.getD k default).Kind = 1 := by simpa using h7
              repeat (first | refine AWp.seq ?_ | refine AWp.block ?_ | refine AWp.skip ?_)
              refine AWp.region ?_
              intro _
              refine round_end (k + 1) hk' ?_ (by omega)
              rw [rdM_no hd1]
              refine And.intro ?_ (And.intro ⟨_, _, rfl, rfl, fun u hu => rfl⟩ (And.intro trivial (And.intro ⟨_, _, rfl, rfl, fun u hu => rfl⟩ (And.intro trivial (And.intro ⟨_, _, rfl, rfl, fun u hu => rfl⟩ (And.intro trivial trivial))))))
              all_goals repeat' (first | exact rfl | exact trivial | exact congrArg (fun z => some (AV.i64 z)) (wrap_succ hk' hpm) | refine And.intro ?_ ?_)
        have hk3 : ¬ (k : Int) < (plAt o b q).length := of_decide_eq_false h5
        obtain rfl : k = (plAt o b q).length := by omega
        clear hk hk3 h5
        refine AWp.exit ?_
        rw [hpl]
        refine AWp.freeze 63 (fun u => intC ((rdA f o J b q ⟨edA o b q s.C, s.w⟩).getD u default)) rfl (fun u hu => rfl) ?_
        repeat (first | refine AWp.seq ?_ | refine AWp.block ?_ | refine AWp.skip ?_)
        refine AWp.region ?_
        intro _
        have hrl : (rdA f o J b q ⟨edA o b q s.C, s.w⟩).length ≤ (insAt f b q).Operands.length := rdM_len _
        repeat (first | refine AWp.seq ?_ | refine AWp.block ?_ | refine AWp.skip ?_)
        refine AWp.loop (fun k : Nat => ⟨[(3, .i64 seed), (4, ints J), (5, .i64 n), (6, .ptr f.cells), (8, .ptr o.cells), (15, .sl 62 (22 + fr)), (18, .sl 61 L.length), (19, .i64 b), (20, .i64 q), (21, .i64 t), (22, .ptr (f.Blocks.getD b default).cells), (27, .ptr (insAt f b q).cells), (28, roL 3 Plc.cells (plAt o b q)), (29, .ro 1 (22 + fr) (fun u => intC (edA o b q s.C u))), (16, .i64 (spA f o J b q ⟨edA o b q s.C, s.w⟩).w), (23, .i64 0), (32, ints (rdA f o J b q ⟨edA o b q s.C, s.w⟩)), (34, .i64 k)], [(62, rowG (22 + fr) (dmF seed (insAt f b q) (plAt o b q) (rdA f o J b q ⟨edA o b q s.C, s.w⟩) (spA f o J b q ⟨edA o b q s.C, s.w⟩).C k)), (61, rowE L)]⟩) (fun k => k ≤ (plAt o b q).length) (fun k => (plAt o b q).length - k) 0 (Nat.zero_le _) ?_ ?_
        · refine And.intro ?_ (And.intro ⟨_, _, rfl, rfl, fun u hu => rfl⟩ (And.intro trivial (And.intro ⟨_, _, rfl, rfl, fun u hu => rfl⟩ (And.intro trivial trivial))))
          all_goals repeat' (first | exact rfl | exact trivial | refine And.intro ?_ ?_)
        intro k hk
        repeat (first | refine AWp.seq ?_ | refine AWp.block ?_ | refine AWp.skip ?_)
        refine AWp.region ?_
        intro _
        repeat (first | refine AWp.seq ?_ | refine AWp.block ?_ | refine AWp.skip ?_)
        refine AWp.cond (And.intro (fun h5 => ?_) (fun h5 => ?_))
        · have hk' : k < (plAt o b q).length := Int.ofNat_lt.1 (of_decide_eq_true h5)
          have hkO : k < (insAt f b q).Operands.length := by rw [← hpl]; exact hk'
          have hP := hO.at_ b q k hb2 hq hkO
          have hPl := hP.lt
          have hcm := c_madeBy seed k (insAt f b q) (rdA f o J b q ⟨edA o b q s.C, s.w⟩) (by omega)
          repeat (first | refine AWp.seq ?_ | refine AWp.block ?_ | refine AWp.skip ?_)
          refine AWp.region ?_
          repeat' refine And.intro ?_ ?_
          all_goals first | exact fun _ => And.intro (Int.natCast_nonneg _) (Int.ofNat_lt.2 hkO) | exact fun h => h | exact gT | exact gF | exact gN | exact gA | skip
          intro _
          repeat (first | refine AWp.seq ?_ | refine AWp.block ?_ | refine AWp.skip ?_)
          refine AWp.cond (And.intro (fun h6 => ?_) (fun h6 => ?_))
          · have hd : ((insAt f b q).Operands.getD k default).Kind = 2 := by simpa using h6
            repeat (first | refine AWp.seq ?_ | refine AWp.block ?_ | refine AWp.skip ?_)
            refine AWp.quietP (.q 0 (.q 1 (.q 2 (.q 3 (.q 4 (.q 6 (.q 7 (.q 8 (.q 9 (.c 5 false (.c 10 false (.q 11 (.c 12 true .fin .no)) .no) .no)))))))))) [0, 1, 2, 3, 4, 6, 7, 8, 9, 11] [] mixed (by kernel_rfl) ?_
            repeat' (first | exact trivial | refine And.intro ?_ ?_ | refine CallX.pure (c_cellOf hfr hP) rfl rfl rfl ?_ | refine CallX.pure hcm rfl rfl rfl ?_ | fail)
            all_goals first | exact fun _ => And.intro (Int.natCast_nonneg _) (Int.ofNat_lt.2 hk') | exact fun _ => And.intro (Int.natCast_nonneg _) (Int.ofNat_lt.2 hPl) | exact hPl | skip
            intro _
            repeat (first | refine AWp.seq ?_ | refine AWp.block ?_ | refine AWp.skip ?_)
            refine AWp.region ?_
            intro _
            refine round_end (k + 1) hk' ?_ (by omega)
            rw [dmF_yes hd]
            refine And.intro ?_ (And.intro ⟨_, _, rfl, rfl, fun u hu => rwq⟩ (And.intro trivial (And.intro ⟨_, _, rfl, rfl, fun u hu => rfl⟩ (And.intro trivial trivial))))
            all_goals repeat' (first | exact rfl | exact trivial | exact congrArg (fun z => some (AV.i64 z)) (wrap_succ hk' hpm) | refine And.intro ?_ ?_)
          · have hd : ¬ ((insAt f b q).Operands.getD k default).Kind = 2 := by simpa using h6
            repeat (first | refine AWp.seq ?_ | refine AWp.block ?_ | refine AWp.skip ?_)
            refine AWp.region ?_
            intro _
            refine round_end (k + 1) hk' ?_ (by omega)
            rw [dmF_no hd]
            refine And.intro ?_ (And.intro ⟨_, _, rfl, rfl, fun u hu => rfl⟩ (And.intro trivial (And.intro ⟨_, _, rfl, rfl, fun u hu => rfl⟩ (And.intro trivial trivial))))
            all_goals repeat' (first | exact rfl | exact trivial | exact congrArg (fun z => some (AV.i64 z)) (wrap_succ hk' hpm) | refine And.intro ?_ ?_)
        have hk3 : ¬ (k : Int) < (plAt o b q).length := of_decide_eq_false h5
        obtain rfl : k = (plAt o b q).length := by omega
        clear hk hk3 h5
        refine AWp.exit ?_
        rw [hpl]
        have hiw := inA_w hC (o := o) (J := J) (seed := seed) (s := ⟨edA o b q s.C, s.w⟩) hb2 hq
        repeat (first | refine AWp.seq ?_ | refine AWp.block ?_ | refine AWp.skip ?_)
        refine AWp.region ?_
        refine CallX.pure (c_edgeTaken seed q (f.Blocks.getD b default) (rdA f o J b q ⟨edA o b q s.C, s.w⟩) (by omega)) rfl rfl rfl ?_
        intro _
        repeat (first | refine AWp.seq ?_ | refine AWp.block ?_ | refine AWp.skip ?_)
        refine AWp.region ?_
        refine And.intro (Nat.le_refl _) (And.intro (fun i hi => ?_) (And.intro rfl (And.intro (by omega) ?_)))
        · have e : i = 0 := by omega
          subst e; rfl
        intro _
        refine And.intro rfl (Exists.intro (takesF seed (f.Blocks.getD b default) q (rdA f o J b q ⟨edA o b q s.C, s.w⟩)) (Exists.intro (fulA f o J seed b q s) (Exists.intro (L ++ [fuvA f o J seed b q s]) (And.intro ⟨by rw [hLl]; omega, by have : (fulA f o J seed b q s).w ≤ s.w + 26 := hiw; omega, fun he h => takes_lt he h, hR⟩ ?_))))
        refine And.intro ?_ (And.intro ⟨_, _, rfl, rfl, fun i hi => rfl⟩ (And.intro trivial (And.intro ⟨_, _, rfl, hLl.symm, fun i hi => ?_⟩ (And.intro trivial trivial))))
        · repeat' (first | exact rfl | exact trivial | exact congrArg (fun n => some (AV.sl 323 n)) hLl.symm | exact congrArg (fun z => some (AV.i64 z)) (show (q : Int) = (((q + 1 : Nat) : Int) - 1) from by omega) | refine And.intro ?_ ?_)
        · rw [hLl] at hi
          exact snocE_row hi
      · have hp0 : p = 0 := by have h4 : decide ((p : Int) - 1 ≥ 0) = false := h4; have := of_decide_eq_false h4; omega
        subst hp0
        rw [outS_in] at hR
        refine AWp.rename 61 323 rfl rfl ?_
        refine AWp.skip ?_
        refine And.intro rfl (Exists.intro 0 (Exists.intro s (Exists.intro L (And.intro ⟨by omega, by omega, fun _ he => ⟨Int.le_refl _, by omega⟩, hR⟩ ?_))))
        refine And.intro ?_ (And.intro ⟨_, _, rfl, rfl, fun i hi => rfl⟩ (And.intro trivial (And.intro ⟨_, _, rfl, rfl, fun i hi => rfl⟩ (And.intro trivial trivial))))
        all_goals repeat' (first | exact rfl | exact trivial | refine And.intro ?_ ?_)
    rintro _ _ ⟨rfl, ed, s2, L2, ⟨hL2, hw2, hed, hR2⟩, hs⟩
    refine AWp.weaken hs ?_
    refine AWp.rename 323 61 rfl rfl ?_
    have hpI : p ≤ (f.Blocks.getD b default).Instrs.length := by omega
    have hiz := hz.instrs b hb2
    have hw : IntKind.i64.wrap ((p : Int) - 1 + 1) = (p : Int) := by rw [wrap_in (by omega) (by omega)]; omega
    repeat (first | refine AWp.seq ?_ | refine AWp.block ?_ | refine AWp.skip ?_)
    refine AWp.region ?_
    intro _
    repeat (first | refine AWp.seq ?_ | refine AWp.block ?_ | refine AWp.skip ?_)
    refine AWp.region ?_
    intro _
    repeat (first | refine AWp.seq ?_ | refine AWp.block ?_ | refine AWp.skip ?_)
    refine AWp.cond (And.intro (fun h5 => ?_) (fun h5 => ?_))
    · have hp' : p < (f.Blocks.getD b default).Instrs.length := by
        have h5 : decide (IntKind.i64.wrap ((p : Int) - 1 + 1) < ((f.Blocks.getD b default).Instrs.length : Int)) = true := h5
        rw [hw] at h5
        have := of_decide_eq_true h5; omega
      rw [if_pos hp'] at hR2
      refine AWp.exit ?_
      repeat (first | refine AWp.seq ?_ | refine AWp.block ?_ | refine AWp.skip ?_)
      refine AWp.region ?_
      intro _
      refine round_end ((t + 1, b), p + 1, (s2, L2)) ⟨hb2, ht', hL2, hw2, Or.inr hp', hR2⟩ ?_ (by show n - (t + 1) < n - t; omega)
      refine And.intro ?_ (And.intro ⟨_, _, rfl, rfl, fun i hi => rfl⟩ (And.intro trivial (And.intro ⟨_, _, rfl, rfl, fun i hi => rfl⟩ (And.intro trivial trivial))))
      all_goals repeat' (first | exact rfl | exact trivial | exact congrArg (fun z => some (AV.i64 z)) (wrap_succ ht' hnm) | exact congrArg (fun z => some (AV.i64 z)) (hw.trans (show (p : Int) = ((p + 1 : Nat) : Int) - 1 from by omega)) | refine And.intro ?_ ?_)
    have hp' : ¬ p < (f.Blocks.getD b default).Instrs.length := by
      have h5 : decide (IntKind.i64.wrap ((p : Int) - 1 + 1) < ((f.Blocks.getD b default).Instrs.length : Int)) = false := h5
      rw [hw] at h5
      have := of_decide_eq_false h5; omega
    rw [if_neg hp'] at hR2
    have hpE : p = (f.Blocks.getD b default).Instrs.length := by omega
    repeat (first | refine AWp.seq ?_ | refine AWp.block ?_ | refine AWp.skip ?_)
    refine AWp.region ?_
    intro _
    repeat (first | refine AWp.seq ?_ | refine AWp.block ?_ | refine AWp.skip ?_)
    refine AWp.loop (fun i : Nat => ⟨[(3, .i64 seed), (4, ints J), (5, .i64 n), (6, .ptr f.cells), (8, .ptr o.cells), (15, .sl 62 (22 + fr)), (16, .i64 s2.w), (18, .sl 61 L2.length), (19, .i64 b), (20, .i64 p), (21, .i64 t), (22, .ptr (f.Blocks.getD b default).cells), (23, .i64 ed), (35, .i64 i)], [(62, rowG (22 + fr) (edF o.Edits b p s2.C i)), (61, rowE L2)]⟩) (fun i => i ≤ o.Edits.length) (fun i => o.Edits.length - i) 0 (Nat.zero_le _) ?_ ?_
    · refine And.intro ?_ (And.intro ⟨_, _, rfl, rfl, fun u hu => rfl⟩ (And.intro trivial (And.intro ⟨_, _, rfl, rfl, fun u hu => rfl⟩ (And.intro trivial trivial))))
      all_goals repeat' (first | exact rfl | exact trivial | exact congrArg (fun z => some (AV.i64 z)) (hw) | refine And.intro ?_ ?_)
    intro i hi
    repeat (first | refine AWp.seq ?_ | refine AWp.block ?_ | refine AWp.skip ?_)
    refine AWp.region ?_
    intro _
    repeat (first | refine AWp.seq ?_ | refine AWp.block ?_ | refine AWp.skip ?_)
    refine AWp.cond (And.intro (fun g1 => ?_) (fun g1 => ?_))
    · have hi' : i < o.Edits.length := Int.ofNat_lt.1 (of_decide_eq_true g1)
      have hml := moves_len hoo hi'
      have hmx : (o.Edits.getD i default).Moves.length ≤ maxLen := by unfold maxLen; omega
      repeat (first | refine AWp.seq ?_ | refine AWp.block ?_ | refine AWp.skip ?_)
      refine AWp.region ?_
      intro _
      repeat (first | refine AWp.seq ?_ | refine AWp.block ?_ | refine AWp.skip ?_)
      refine AWp.loop (fun k : Nat => ⟨[(3, .i64 seed), (4, ints J), (5, .i64 n), (6, .ptr f.cells), (8, .ptr o.cells), (15, .sl 62 (22 + fr)), (16, .i64 s2.w), (18, .sl 61 L2.length), (19, .i64 b), (20, .i64 p), (21, .i64 t), (22, .ptr (f.Blocks.getD b default).cells), (23, .i64 ed), (35, .i64 i), (36, .i64 k)], [(62, rowG (22 + fr) (mvF (o.Edits.getD i default) (edF o.Edits b p s2.C i) k)), (61, rowE L2)]⟩) (fun k => k ≤ (o.Edits.getD i default).Moves.length ∧ (k = 0 ∨ ((o.Edits.getD i default).Block = b ∧ (o.Edits.getD i default).At = ((p : Nat) : Int)))) (fun k => (o.Edits.getD i default).Moves.length - k) 0 ⟨Nat.zero_le _, .inl rfl⟩ ?_ ?_
      · refine And.intro ?_ (And.intro ⟨_, _, rfl, rfl, fun u hu => rfl⟩ (And.intro trivial (And.intro ⟨_, _, rfl, rfl, fun u hu => rfl⟩ (And.intro trivial trivial))))
        all_goals repeat' (first | exact rfl | exact trivial | refine And.intro ?_ ?_)
      rintro k ⟨hk, hkm⟩
      repeat (first | refine AWp.seq ?_ | refine AWp.block ?_ | refine AWp.skip ?_)
      refine AWp.region ?_
      repeat' refine And.intro ?_ ?_
      all_goals first | exact fun _ => And.intro (Int.natCast_nonneg _) (Int.ofNat_lt.2 hi') | exact fun h => h | exact gT | exact gF | exact gN | exact gA | skip
      intro _
      repeat (first | refine AWp.seq ?_ | refine AWp.block ?_ | refine AWp.skip ?_)
      refine AWp.cond (And.intro (fun g2 => ?_) (fun g2 => ?_))
      · have hh : k < (o.Edits.getD i default).Moves.length ∧ (o.Edits.getD i default).Block = b ∧ (o.Edits.getD i default).At = (p : Nat) := by clear hml hmx; simp only [bif_if, Int.toNat_natCast] at g2; grind
        obtain ⟨hk', hB⟩ := hh
        obtain ⟨hF, hT⟩ := hO.mv i k hi' hk'
        have hFl := hF.lt
        have hTl := hT.lt
        repeat (first | refine AWp.seq ?_ | refine AWp.block ?_ | refine AWp.skip ?_)
        refine AWp.region ?_
        repeat' refine And.intro ?_ ?_
        all_goals first | exact fun _ => And.intro (Int.natCast_nonneg _) (Int.ofNat_lt.2 hi') | exact fun _ => And.intro (Int.natCast_nonneg _) (Int.ofNat_lt.2 hk') | exact fun h => h | exact gT | exact gF | exact gN | exact gA | skip
        intro _
        refine AWp.freezeObj 37 rfl rfl ?_
        repeat (first | refine AWp.seq ?_ | refine AWp.block ?_ | refine AWp.skip ?_)
        refine AWp.quietP (.q 0 (.q 1 (.q 2 (.q 4 (.q 5 (.q 6 (.c 3 false (.c 7 false (.q 8 (.c 9 false (.q 10 (.c 11 true .fin .no)) .no)) .no) .no))))))) [0, 1, 2, 4, 5, 6, 8, 10] [] mixed (by kernel_rfl) ?_
        repeat' (first | exact trivial | refine And.intro ?_ ?_ | refine CallX.pure (c_cellOf hfr hF) rfl rfl rfl ?_ | refine CallX.pure (c_cellOf hfr hT) rfl rfl rfl ?_ | fail)
        all_goals first | exact fun _ => And.intro (Int.natCast_nonneg _) (Int.ofNat_lt.2 hFl) | exact fun _ => And.intro (Int.natCast_nonneg _) (Int.ofNat_lt.2 hTl) | exact fun _ => hFl | exact hTl | skip
        intro _
        repeat (first | refine AWp.seq ?_ | refine AWp.block ?_ | refine AWp.skip ?_)
        refine AWp.region ?_
        intro _
        refine round_end (k + 1) ⟨hk', .inr hB⟩ ?_ (by omega)
        refine And.intro ?_ (And.intro ⟨_, _, rfl, rfl, fun u hu => rwq⟩ (And.intro trivial (And.intro ⟨_, _, rfl, rfl, fun u hu => rfl⟩ (And.intro trivial trivial))))
        all_goals repeat' (first | exact rfl | exact trivial | exact congrArg (fun z => some (AV.i64 z)) (wrap_succ hk' hmx) | refine And.intro ?_ ?_)
      have hE : edF o.Edits b p s2.C (i + 1) = mvF (o.Edits.getD i default) (edF o.Edits b p s2.C i) k := by
        have hh : ¬ (k < (o.Edits.getD i default).Moves.length ∧ (o.Edits.getD i default).Block = b ∧ (o.Edits.getD i default).At = (p : Nat)) := by clear hml hmx; simp only [bif_if, Int.toNat_natCast] at g2; grind
        by_cases hm : (o.Edits.getD i default).Block = b ∧ (o.Edits.getD i default).At = (p : Nat)
        · rw [edF_yes hm, show k = (o.Edits.getD i default).Moves.length from Nat.le_antisymm hk (Nat.le_of_not_lt fun z => hh ⟨z, hm⟩)]
        · rw [edF_no hm, hkm.resolve_right hm]; rfl
      refine AWp.exit ?_
      repeat (first | refine AWp.seq ?_ | refine AWp.block ?_ | refine AWp.skip ?_)
      refine AWp.region ?_
      intro _
      refine round_end (i + 1) hi' ?_ (by omega)
      rw [hE]
      refine And.intro ?_ (And.intro ⟨_, _, rfl, rfl, fun u hu => rfl⟩ (And.intro trivial (And.intro ⟨_, _, rfl, rfl, fun u hu => rfl⟩ (And.intro trivial trivial))))
      all_goals repeat' (first | exact rfl | exact trivial | exact congrArg (fun z => some (AV.i64 z)) (wrap_succ hi' hlen) | refine And.intro ?_ ?_)
    have hi3 : ¬ (i : Int) < o.Edits.length := of_decide_eq_false g1
    obtain rfl : i = o.Edits.length := by omega
    clear hi hi3 g1
    refine AWp.exit ?_
    unfold conM at hR2
    rw [← hpE] at hR2
    repeat (first | refine AWp.seq ?_ | refine AWp.block ?_ | refine AWp.skip ?_)
    refine AWp.region ?_
    intro _
    repeat (first | refine AWp.seq ?_ | refine AWp.block ?_ | refine AWp.skip ?_)
    refine AWp.cond (And.intro (fun h6 => ?_) (fun h6 => ?_))
    · have he0 : (f.Blocks.getD b default).Edges.length = 0 := by simpa using h6
      rw [if_pos he0] at hR2
      rw [← hR2]
      refine AWp.exit ?_
      refine AWp.freeze 61 (fun i => evtC (L2.getD i default)) rfl (fun i hi => rfl) ?_
      repeat (first | refine AWp.seq ?_ | refine AWp.block ?_ | refine AWp.skip ?_)
      refine AWp.region ?_
      intro _
      refine AWp.ret ⟨Or.inl rfl, rfl, ?_⟩
      intro _
      rfl
    · have he0 : ¬ (f.Blocks.getD b default).Edges.length = 0 := by simpa using h6
      rw [if_neg he0] at hR2
      obtain ⟨he1, he2⟩ := hed hpE (by omega)
      have hen : ed.toNat < (f.Blocks.getD b default).Edges.length := by omega
      have heB := hC.e.edge b ed.toNat hb2 hen
      repeat (first | refine AWp.seq ?_ | refine AWp.block ?_ | refine AWp.skip ?_)
      refine AWp.region ?_
      refine And.intro (fun _ => And.intro he1 he2) ?_
      intro _
      repeat (first | refine AWp.seq ?_ | refine AWp.block ?_ | refine AWp.skip ?_)
      refine AWp.region ?_
      intro _
      repeat (first | refine AWp.seq ?_ | refine AWp.block ?_ | refine AWp.skip ?_)
      refine AWp.region ?_
      intro _
      refine round_end ((t + 1, ((f.Blocks.getD b default).Edges.getD ed.toNat default).Block.toNat), 0, (⟨edA o b p s2.C, s2.w⟩, L2)) ⟨by show ((f.Blocks.getD b default).Edges.getD ed.toNat default).Block.toNat < f.Blocks.length; omega, ht', hL2, hw2, Or.inl rfl, hR2⟩ ?_ (by show n - (t + 1) < n - t; omega)
      refine And.intro ?_ (And.intro ⟨_, _, rfl, rfl, fun i hi => rfl⟩ (And.intro trivial (And.intro ⟨_, _, rfl, rfl, fun i hi => rfl⟩ (And.intro trivial trivial))))
      all_goals repeat' (first | exact rfl | exact trivial | exact congrArg (fun z => some (AV.i64 z)) (wrap_succ ht' hnm) | exact congrArg (fun z => some (AV.i64 z)) (show ((f.Blocks.getD b default).Edges.getD ed.toNat default).Block = ((((f.Blocks.getD b default).Edges.getD ed.toNat default).Block.toNat : Nat) : Int) from by omega) | refine And.intro ?_ ?_)
  · have ht3 : t = n := by have h3 : decide ((t : Int) < (n : Int)) = false := h3; have := of_decide_eq_false h3; omega
    subst ht3
    rw [Nat.sub_self, outS_zero] at hR
    rw [← hR]
    refine AWp.exit ?_
    refine AWp.freeze 61 (fun i => evtC (L.getD i default)) rfl (fun i hi => rfl) ?_
    repeat (first | refine AWp.seq ?_ | refine AWp.block ?_ | refine AWp.skip ?_)
    refine AWp.region ?_
    intro _
    refine AWp.ret ⟨Or.inl rfl, rfl, ?_⟩
    intro _
    rfl
end Go.Proofs.Ytnbgpgbbfjaomaa

/- What mach.Run and OutputRun refuse. Condition: arguments as they come in. -/
namespace Go.Proofs.Ytnbgpgbbfjaomaa
open Go Go.Abs Go.RowKit Go.Abs.Gra

/-- What is refused. -/
noncomputable def resF (f : Fun) (m : Mch) (o : Oup) (J : List Int) (n : Int) : Int :=
  if outF f m o ≠ 0 then outF f m o else if n < 0 ∨ 5000 < n then 2 else if 64 < J.length then 1 else 0
section
variable {f : Fun} {m : Mch} {o : Oup} {J : List Int} {n : Int}
theorem resF_1 (h : outF f m o ≠ 0) : resF f m o J n = outF f m o := if_pos h
theorem resF_2 (h : outF f m o = 0) (h2 : n < 0 ∨ 5000 < n) : resF f m o J n = 2 := by unfold resF; rw [if_neg fun z => z h, if_pos h2]
theorem resF_3 (h : outF f m o = 0) (h2 : ¬ (n < 0 ∨ 5000 < n)) (h3 : 64 < J.length) : resF f m o J n = 1 := by unfold resF; rw [if_neg fun z => z h, if_neg h2, if_pos h3]
theorem resF_4 (h : outF f m o = 0) (h2 : ¬ (n < 0 ∨ 5000 < n)) (h3 : ¬ 64 < J.length) : resF f m o J n = 0 := by unfold resF; rw [if_neg fun z => z h, if_neg h2, if_neg h3]
end
theorem c_MachRunNo (f : Fun) (m : Mch) (o : Oup) (hok : Fun.ok f) (hoo : Oup.ok o) (seed : Int) (J : List Int) (n : Int) (hr : resF f m o J n ≠ 0) : ACallIs B.P 14 [f.av, m.av, o.av, .i64 seed, ints J, .i64 n] (.tup [nilV, .i64 (resF f m o J n)]) := by
  have hc := c_MachCheck f m o hok hoo
  refine ACallIs.enter B _ _ Try.func14 rfl rfl Try.ntmps14 Try.results14 rfl fun hreal => ?_
  clear hreal
  repeat (first | refine AWp.seq ?_ | refine AWp.block ?_ | refine AWp.skip ?_)
  refine AWp.region ?_
  intro _
  refine AWp.freezeObj 6 rfl rfl ?_
  refine AWp.freezeObj 7 rfl rfl ?_
  refine AWp.freezeObj 8 rfl rfl ?_
  repeat (first | refine AWp.seq ?_ | refine AWp.block ?_ | refine AWp.skip ?_)
  refine AWp.region ?_
  refine CallX.pure hc rfl rfl rfl ?_
  intro _
  repeat (first | refine AWp.seq ?_ | refine AWp.block ?_ | refine AWp.skip ?_)
  refine AWp.region ?_
  intro _
  repeat (first | refine AWp.seq ?_ | refine AWp.block ?_ | refine AWp.skip ?_)
  refine AWp.cond (And.intro (fun h1 => ?_) (fun h1 => ?_))
  · have h : outF f m o ≠ 0 := by simpa using h1
    repeat (first | refine AWp.seq ?_ | refine AWp.block ?_ | refine AWp.skip ?_)
    refine AWp.region ?_
    intro _
    refine AWp.ret ⟨Or.inl rfl, rfl, ?_⟩
    intro _
    exact congrArg (fun z => AV.tup [nilV, AV.i64 z]) (resF_1 h).symm
  have h : outF f m o = 0 := by simpa using h1
  repeat (first | refine AWp.seq ?_ | refine AWp.block ?_ | refine AWp.skip ?_)
  refine AWp.region ?_
  repeat' refine And.intro ?_ ?_
  all_goals first | exact fun h => h | exact gT | exact gF | exact fun h => h | skip
  intro _
  repeat (first | refine AWp.seq ?_ | refine AWp.block ?_ | refine AWp.skip ?_)
  refine AWp.cond (And.intro (fun h2 => ?_) (fun h2 => ?_))
  · have hs : n < 0 ∨ 5000 < n := by simp only [bif_if] at h2; grind
    repeat (first | refine AWp.seq ?_ | refine AWp.block ?_ | refine AWp.skip ?_)
    refine AWp.region ?_
    intro _
    refine AWp.ret ⟨Or.inl rfl, rfl, ?_⟩
    intro _
    exact congrArg (fun z => AV.tup [nilV, AV.i64 z]) (resF_2 h hs).symm
  have hs : ¬ (n < 0 ∨ 5000 < n) := by simp only [bif_if] at h2; grind
  repeat (first | refine AWp.seq ?_ | refine AWp.block ?_ | refine AWp.skip ?_)
  refine AWp.region ?_
  intro _
  repeat (first | refine AWp.seq ?_ | refine AWp.block ?_ | refine AWp.skip ?_)
  refine AWp.cond (And.intro (fun h3 => ?_) (fun h3 => ?_))
  · have hj : 64 < J.length := by have := of_decide_eq_true h3; omega
    repeat (first | refine AWp.seq ?_ | refine AWp.block ?_ | refine AWp.skip ?_)
    refine AWp.region ?_
    intro _
    refine AWp.ret ⟨Or.inl rfl, rfl, ?_⟩
    intro _
    exact congrArg (fun z => AV.tup [nilV, AV.i64 z]) (resF_3 h hs hj).symm
  · exfalso
    have hj : ¬ 64 < J.length := by have := of_decide_eq_false h3; omega
    exact hr (resF_4 h hs hj)
theorem c_OutputRunNo (f : Fun) (m : Mch) (o : Oup) (hok : Fun.ok f) (hoo : Oup.ok o) (seed : Int) (J : List Int) (n : Int) (hr : resF f m o J n ≠ 0) : ACallIs B.P 16 [f.av, m.av, o.av, .i64 seed, ints J, .i64 n] (.tup [nilV, .i64 (resF f m o J n)]) := by
  have hc := c_OutputFault f m o hok hoo
  refine ACallIs.enter B _ _ Try.func16 rfl rfl Try.ntmps16 Try.results16 rfl fun hreal => ?_
  clear hreal
  repeat (first | refine AWp.seq ?_ | refine AWp.block ?_ | refine AWp.skip ?_)
  refine AWp.region ?_
  intro _
  refine AWp.freezeObj 6 rfl rfl ?_
  refine AWp.freezeObj 7 rfl rfl ?_
  refine AWp.freezeObj 8 rfl rfl ?_
  repeat (first | refine AWp.seq ?_ | refine AWp.block ?_ | refine AWp.skip ?_)
  refine AWp.region ?_
  refine CallX.pure hc rfl rfl rfl ?_
  intro _
  repeat (first | refine AWp.seq ?_ | refine AWp.block ?_ | refine AWp.skip ?_)
  refine AWp.region ?_
  repeat' (first | refine And.intro ?_ ?_ | refine CallK.intro (fun _ => c_In n 0 5000) ?_)
  all_goals first | exact fun h => h | exact gT | exact gF | skip
  intro _
  repeat (first | refine AWp.seq ?_ | refine AWp.block ?_ | refine AWp.skip ?_)
  refine AWp.cond (And.intro (fun h1 => ?_) (fun h1 => ?_))
  · have h : outF f m o = 0 ∧ (n < 0 ∨ 5000 < n) := by simp only [bif_if] at h1; unfold inB at h1; grind
    repeat (first | refine AWp.seq ?_ | refine AWp.block ?_ | refine AWp.skip ?_)
    refine AWp.region ?_
    intro _
    repeat (first | refine AWp.seq ?_ | refine AWp.block ?_ | refine AWp.skip ?_)
    refine AWp.region ?_
    repeat' refine And.intro ?_ ?_
    all_goals first | exact fun h => h | exact gT | exact gF | exact gN | skip
    intro _
    repeat (first | refine AWp.seq ?_ | refine AWp.block ?_ | refine AWp.skip ?_)
    refine AWp.cond (And.intro (fun h2 => ?_) (fun h2 => ?_))
    · cases h2
    repeat (first | refine AWp.seq ?_ | refine AWp.block ?_ | refine AWp.skip ?_)
    refine AWp.region ?_
    intro _
    repeat (first | refine AWp.seq ?_ | refine AWp.block ?_ | refine AWp.skip ?_)
    refine AWp.cond (And.intro (fun h3 => ?_) (fun h3 => ?_))
    · repeat (first | refine AWp.seq ?_ | refine AWp.block ?_ | refine AWp.skip ?_)
      refine AWp.region ?_
      intro _
      refine AWp.ret ⟨Or.inl rfl, rfl, ?_⟩
      intro _
      exact congrArg (fun z => AV.tup [nilV, AV.i64 z]) (resF_2 h.1 h.2).symm
    · cases h3
  have h : ¬ (outF f m o = 0 ∧ (n < 0 ∨ 5000 < n)) := by simp only [bif_if] at h1; unfold inB at h1; grind
  repeat (first | refine AWp.seq ?_ | refine AWp.block ?_ | refine AWp.skip ?_)
  refine AWp.region ?_
  repeat' refine And.intro ?_ ?_
  all_goals first | exact fun h => h | exact gT | exact gF | exact gN | skip
  intro _
  repeat (first | refine AWp.seq ?_ | refine AWp.block ?_ | refine AWp.skip ?_)
  refine AWp.cond (And.intro (fun h2 => ?_) (fun h2 => ?_))
  · have h4 : outF f m o = 0 ∧ 64 < J.length := by simp only [bif_if] at h2; grind
    repeat (first | refine AWp.seq ?_ | refine AWp.block ?_ | refine AWp.skip ?_)
    refine AWp.region ?_
    intro _
    repeat (first | refine AWp.seq ?_ | refine AWp.block ?_ | refine AWp.skip ?_)
    refine AWp.region ?_
    intro _
    repeat (first | refine AWp.seq ?_ | refine AWp.block ?_ | refine AWp.skip ?_)
    refine AWp.cond (And.intro (fun h3 => ?_) (fun h3 => ?_))
    · repeat (first | refine AWp.seq ?_ | refine AWp.block ?_ | refine AWp.skip ?_)
      refine AWp.region ?_
      intro _
      refine AWp.ret ⟨Or.inl rfl, rfl, ?_⟩
      intro _
      exact congrArg (fun z => AV.tup [nilV, AV.i64 z]) (resF_3 h4.1 (fun z => h ⟨h4.1, z⟩) h4.2).symm
    · cases h3
  have h4 : ¬ (outF f m o = 0 ∧ 64 < J.length) := by simp only [bif_if] at h2; grind
  repeat (first | refine AWp.seq ?_ | refine AWp.block ?_ | refine AWp.skip ?_)
  refine AWp.region ?_
  intro _
  repeat (first | refine AWp.seq ?_ | refine AWp.block ?_ | refine AWp.skip ?_)
  refine AWp.cond (And.intro (fun h3 => ?_) (fun h3 => ?_))
  · have h5 : outF f m o ≠ 0 := by simpa using h3
    repeat (first | refine AWp.seq ?_ | refine AWp.block ?_ | refine AWp.skip ?_)
    refine AWp.region ?_
    intro _
    refine AWp.ret ⟨Or.inl rfl, rfl, ?_⟩
    intro _
    exact congrArg (fun z => AV.tup [nilV, AV.i64 z]) (resF_1 h5).symm
  · exfalso
    have h5 : outF f m o = 0 := by simpa using h3
    exact hr (resF_4 h5 (fun z => h ⟨h5, z⟩) (fun z => h4 ⟨h5, z⟩))
end Go.Proofs.Ytnbgpgbbfjaomaa
