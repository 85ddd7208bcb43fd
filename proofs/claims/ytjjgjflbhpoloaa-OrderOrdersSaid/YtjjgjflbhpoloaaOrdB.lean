/- Moves that are to be done at once: the steps one behind the other, what they come to, and the classes by goals. Plain. -/
import Derived.Test.YtjjgjflbhpoloaaOrdA
set_option linter.unusedVariables false
set_option linter.unusedSimpArgs false
namespace Go.Proofs.Ytjjgjflbhpoloaa
open Go Go.Abs Go.RowKit
def wF (l : List Mov) (σ : Nat → Int) : Nat → Nat → Int
 | 0 => σ
 | i + 1 => fun c => if c = celF (l.getD i default).To then σ (celF (l.getD i default).From) else wF l σ i c
theorem wF_no {l : List Mov} {σ : Nat → Int} {c : Nat} : ∀ i, (∀ j, j < i → celF (l.getD j default).To ≠ c) → wF l σ i c = σ c
 | 0, _ => rfl
 | i + 1, h => by
  show (if c = celF (l.getD i default).To then _ else wF l σ i c) = _
  rw [if_neg (fun e => h i (Nat.lt_succ_self i) e.symm)]
  exact wF_no i fun j hj => h j (by omega)
theorem wF_at {l : List Mov} {σ : Nat → Int} {j : Nat} (hd : ∀ a b, a < l.length → b < l.length → celF (l.getD a default).To = celF (l.getD b default).To → a = b) : ∀ i, i ≤ l.length → j < i → wF l σ i (celF (l.getD j default).To) = σ (celF (l.getD j default).From)
 | 0, _, h => absurd h (Nat.not_lt_zero _)
 | i + 1, hi, hj => by
  show (if celF (l.getD j default).To = celF (l.getD i default).To then _ else wF l σ i _) = _
  by_cases e : j = i
  ·subst e; rw [if_pos rfl]
  ·rw [if_neg (fun h => e (hd j i (by omega) (by omega) h))]
   exact wF_at hd i (by omega) (by omega)
theorem getD_mem {α : Type} [Inhabited α] {l : List α} {i : Nat} (h : i < l.length) : l.getD i default ∈ l := by
 rw [List.getD_eq_getElem?_getD, List.getElem?_eq_getElem h]; exact List.getElem_mem h
theorem mem_getD {α : Type} [Inhabited α] {l : List α} {x : α} (h : x ∈ l) : ∃ i, i < l.length ∧ l.getD i default = x := by
 obtain ⟨i, hi, e⟩ := List.mem_iff_getElem.1 h
 exact ⟨i, hi, by rw [List.getD_eq_getElem?_getD, List.getElem?_eq_getElem hi]; exact e⟩
structure MvsOk (m : Mch) (fr : Nat) (K : Plc → Int) (l : List Mov) : Prop where
 frm : ∀ j, j < l.length → placeF m fr (l.getD j default).From = true
 to : ∀ j, j < l.length → placeF m fr (l.getD j default).To = true
 cl : ∀ j, j < l.length → (0 ≤ K (l.getD j default).To ∧ K (l.getD j default).To < 2) ∧ ((l.getD j default).From.Kind = 1 → (l.getD j default).From.Class = K (l.getD j default).To) ∧ ((l.getD j default).To.Kind = 1 → (l.getD j default).To.Class = K (l.getD j default).To)
 ap : ∀ a b, b < l.length → a < b → (l.getD a default).To ≠ (l.getD b default).To
theorem MvsOk.cel {m : Mch} {fr : Nat} {K : Plc → Int} {l : List Mov} (h : MvsOk m fr K l) (hm : machF m = 0) : ∀ a b, a < l.length → b < l.length → celF (l.getD a default).To = celF (l.getD b default).To → a = b := by
 intro a b ha hb e
 have := celF_inj hm (place_end (h.to a ha)) (place_end (h.to b hb)) e
 rcases Nat.lt_trichotomy a b with h1 | h1 | h1
 ·exact absurd this (h.ap a b hb h1)
 ·exact h1
 ·exact absurd this.symm (h.ap b a ha h1)
theorem MvsOk.nodup {m : Mch} {fr : Nat} {K : Plc → Int} {l : List Mov} (h : MvsOk m fr K l) : (l.map (·.To)).Nodup := by
 rw [List.Nodup, List.pairwise_iff_getElem]
 intro a b ha hb hab
 simp only [List.length_map] at ha hb
 simp only [List.getElem_map]
 have := h.ap a b hb hab
 rw [List.getD_eq_getElem?_getD, List.getElem?_eq_getElem ha, List.getD_eq_getElem?_getD, List.getElem?_eq_getElem hb] at this
 exact this
def mvB (x : Mov) : Bool := decide (x.From ≠ x.To)
theorem DoI.start {m : Mch} {fr : Nat} {K : Plc → Int} {l : List Mov} (h : MvsOk m fr K l) (hm : machF m = 0) (σ : Nat → Int) : DoI m fr l.length σ (wF l σ l.length) K (l.filter mvB) [] := by
 have hs : ∀ y, y ∈ l.filter mvB → y ∈ l ∧ y.From ≠ y.To := fun y hy => by
  obtain ⟨h1, h2⟩ := List.mem_filter.1 hy
  exact ⟨h1, of_decide_eq_true h2⟩
 refine ⟨fun y hy => ?_, ?_, fun y hy => ?_, fun y hy => ?_, fun x hx => (by cases hx), fun y hy => ?_, fun c hc hs2 ht => ?_, ?_⟩
 ·obtain ⟨j, hj, rfl⟩ := mem_getD (hs y hy).1; exact h.to j hj
 ·exact List.Nodup.sublist ((List.filter_sublist (p := mvB) (l := l)).map _) h.nodup
 ·obtain ⟨j, hj, rfl⟩ := mem_getD (hs y hy).1; exact .inl (h.frm j hj)
 ·obtain ⟨j, hj, rfl⟩ := mem_getD (hs y hy).1; exact h.cl j hj
 ·obtain ⟨j, hj, rfl⟩ := mem_getD (hs y hy).1
  exact (wF_at (h.cel hm) _ (Nat.le_refl _) hj).symm
 ·show σ c = _
  by_cases e : ∃ j, j < l.length ∧ celF (l.getD j default).To = c
  ·obtain ⟨j, hj, rfl⟩ := e
   rw [wF_at (h.cel hm) _ (Nat.le_refl _) hj]
   by_cases e2 : (l.getD j default).From = (l.getD j default).To
   ·rw [e2]
   ·exact absurd rfl (ht _ (List.mem_filter.2 ⟨getD_mem hj, decide_eq_true e2⟩))
  ·exact (wF_no _ fun j hj e2 => e ⟨j, hj, e2⟩).symm
 ·have := List.length_filter_le mvB l
  simp only [List.length_nil]
  split <;> omega
def clK (K : Plc → Int) (p : Plc) (L : List Mov) : Nat → Int
 | 0 => 0
 | i + 1 => if (L.getD i default).From = p then K (L.getD i default).To else clK K p L i
theorem clK_in {K : Plc → Int} {p : Plc} {L : List Mov} (h : ∀ y, y ∈ L → 0 ≤ K y.To ∧ K y.To < 2) : ∀ i, i ≤ L.length → 0 ≤ clK K p L i ∧ clK K p L i < 2
 | 0, _ => ⟨Int.le_refl _, by show (0 : Int) < 2; decide⟩
 | i + 1, hi => by
  unfold clK
  split
  ·exact h _ (getD_mem (by omega))
  ·exact clK_in h i (by omega)
def stF (m : Mch) (fr : Nat) (K : Plc → Int) (s : List Mov × List Mov) : List Mov × List Mov :=
 if s.1.findIdx (frB s.1) < s.1.length then
  (s.1.eraseIdx (s.1.findIdx (frB s.1)), s.2 ++ putL m (s.1.getD (s.1.findIdx (frB s.1)) default).From (s.1.getD (s.1.findIdx (frB s.1)) default).To (K (s.1.getD (s.1.findIdx (frB s.1)) default).To))
 else if s.1.length = 0 then s
 else (trnL fr (s.1.getD 0 default).To s.1, s.2 ++ putL m (s.1.getD 0 default).To (spP fr) (clK K (s.1.getD 0 default).To s.1 s.1.length))
def itF (m : Mch) (fr : Nat) (K : Plc → Int) (s : List Mov × List Mov) : Nat → List Mov × List Mov
 | 0 => s
 | k + 1 => stF m fr K (itF m fr K s k)
def lefF (L : List Mov) : Nat := 2 * L.length + (if frE L = true then 0 else 1)
section
variable {m : Mch} {fr n : Nat} {σ w : Nat → Int} {K : Plc → Int}
theorem free_iff {L : List Mov} : L.findIdx (frB L) < L.length ↔ frE L = true := by
 rw [List.findIdx_lt_length, frE_iff]
theorem free_at {L : List Mov} (h : L.findIdx (frB L) < L.length) : frB L (L.getD (L.findIdx (frB L)) default) = true := by
 rw [List.getD_eq_getElem?_getD, List.getElem?_eq_getElem h]
 exact List.findIdx_getElem (w := h)
theorem DoI.step {s : List Mov × List Mov} (I : DoI m fr n σ w K s.1 s.2) (hm : machF m = 0) (hp : 0 < s.1.length) : DoI m fr n σ w K (stF m fr K s).1 (stF m fr K s).2 ∧ lefF (stF m fr K s).1 < lefF s.1 := by
 unfold stF
 split
 ·rename_i h
  have hg : s.1[s.1.findIdx (frB s.1)] = s.1.getD (s.1.findIdx (frB s.1)) default := by rw [List.getD_eq_getElem?_getD, List.getElem?_eq_getElem h]; rfl
  refine ⟨I.free hm h hg (free_at h), ?_⟩
  unfold lefF
  have hl : (s.1.eraseIdx (s.1.findIdx (frB s.1))).length = s.1.length - 1 := List.length_eraseIdx_of_lt h
  rw [if_pos (free_iff.1 h)]
  show 2 * (s.1.eraseIdx (s.1.findIdx (frB s.1))).length + _ < _
  rw [hl]
  split <;> omega
 ·rename_i h
  have hf : frE s.1 = false := by
   cases e : frE s.1 with
   | false => rfl
   | true => exact absurd (free_iff.2 e) h
  rw [if_neg (by omega)]
  obtain ⟨h1, h2⟩ := I.turn hm hf (getD_mem hp) (clK_in (p := (s.1.getD 0 default).To) (fun y hy => (I.cl y hy).1) s.1.length (Nat.le_refl _))
  refine ⟨h1, ?_⟩
  unfold lefF
  show 2 * (trnL fr (s.1.getD 0 default).To s.1).length + _ < _
  rw [if_pos h2, hf]
  have h4 : (trnL fr (s.1.getD 0 default).To s.1).length = s.1.length := by unfold trnL; simp
  rw [h4]
  simp
theorem stF_nil {s : List Mov × List Mov} (h : s.1.length = 0) : stF m fr K s = s := by
 unfold stF
 rw [if_neg (by omega), if_pos h]
theorem itF_end {s : List Mov × List Mov} {k : Nat} (h : (itF m fr K s k).1.length = 0) : ∀ j, itF m fr K s (k + j) = itF m fr K s k
 | 0 => rfl
 | j + 1 => by
  show stF m fr K (itF m fr K s (k + j)) = _
  rw [itF_end h j, stF_nil h]
end
def outF (m : Mch) (fr : Nat) (K : Plc → Int) (L : List Mov) : List Mov := (itF m fr K (L, []) (lefF L)).2
theorem outF_of {m : Mch} {fr : Nat} {K : Plc → Int} {L : List Mov} {k : Nat} (h : (itF m fr K (L, []) k).1.length = 0) (hk : k ≤ lefF L) : outF m fr K L = (itF m fr K (L, []) k).2 := by
 unfold outF
 obtain ⟨j, hj⟩ := Nat.le.dest hk
 rw [← hj, itF_end h]
/-! ### Classes by goals, as a map -/
def prL (l : List Mov) (cs : List Int) : Nat → List (Plc × Int)
 | 0 => []
 | i + 1 => prL l cs i ++ [((l.getD i default).To, cs.getD i default)]
def hasP (A : List (Plc × Int)) (p : Plc) : Bool := A.any fun e => e.1 == p
def lkP : List (Plc × Int) → Plc → Int
 | [], _ => 0
 | e :: r, p => if e.1 = p then e.2 else lkP r p
theorem lkP_app {p : Plc} : ∀ {A B : List (Plc × Int)}, lkP (A ++ B) p = if hasP A p = true then lkP A p else lkP B p
 | [], B => by simp [hasP]
 | e :: r, B => by
  show (if e.1 = p then e.2 else lkP (r ++ B) p) = _
  by_cases h : e.1 = p
  ·simp [hasP, lkP, h]
  ·rw [if_neg h, lkP_app]
   have h2 : (e.1 == p) = false := beq_eq_false_iff_ne.2 h
   have h3 : hasP (e :: r) p = hasP r p := by unfold hasP; rw [List.any_cons, h2, Bool.false_or]
   have h4 : lkP (e :: r) p = lkP r p := if_neg h
   rw [h3, h4]
theorem hasP_iff {l : List Mov} {cs : List Int} {p : Plc} : ∀ i, hasP (prL l cs i) p = true ↔ ∃ j, j < i ∧ (l.getD j default).To = p
 | 0 => by simp [prL, hasP]
 | i + 1 => by
  have ih := hasP_iff (l := l) (cs := cs) (p := p) i
  unfold prL
  unfold hasP at ih ⊢
  rw [List.any_append, Bool.or_eq_true, ih]
  simp only [List.any_cons, List.any_nil, Bool.or_false, beq_iff_eq]
  constructor
  ·rintro (⟨j, h1, h2⟩ | h)
   ·exact ⟨j, by omega, h2⟩
   ·exact ⟨i, by omega, h⟩
  ·rintro ⟨j, h1, h2⟩
   by_cases e : j = i
   ·subst e; exact .inr h2
   ·exact .inl ⟨j, by omega, h2⟩
theorem lkP_at {l : List Mov} {cs : List Int} {n j : Nat} (hd : ∀ a b, b < n → a < b → (l.getD a default).To ≠ (l.getD b default).To) : ∀ i, i ≤ n → j < i → lkP (prL l cs i) (l.getD j default).To = cs.getD j default
 | 0, _, h => absurd h (Nat.not_lt_zero _)
 | i + 1, hi, hj => by
  unfold prL
  rw [lkP_app]
  by_cases e : j = i
  ·subst e
   rw [if_neg]
   ·simp [lkP]
   ·rw [hasP_iff]
    rintro ⟨a, h1, h2⟩
    exact hd a j (by omega) h1 h2
  ·rw [if_pos ((hasP_iff i).2 ⟨j, by omega, rfl⟩)]
   exact lkP_at hd i (by omega) (by omega)
end Go.Proofs.Ytjjgjflbhpoloaa
