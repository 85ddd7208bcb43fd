/- Plain: each value made just once. Condition: none. -/
import Derived.Test.YtdilfbdfefppbaaShpS
set_option linter.unusedVariables false
set_option linter.unusedSimpArgs false
namespace Go.Proofs.Ytdilfbdfefppbaa
open Go Go.Abs Go.RowKit

def bad (f : Fun) (P : List Int) (v : Int) : Int := if valB f v = false then 2 else if v ∈ P then 7 else 0
def OkP (f : Fun) (P : List Int) : Prop := ∀ j, j < P.length → bad f (P.take j) (P.getD j default) = 0
def badG (f : Fun) (L : List Int) (j : Nat) : Int := bad f (L.take j) (L.getD j default)
def onceF (f : Fun) : Int :=
  if firstF (badG f (makL f)) (makL f).length ≠ 0 then firstF (badG f (makL f)) (makL f).length
  else if (makL f).length < f.Values.length then 6 else 0
def memP (P : List Int) (i : Nat) : Bool := decide ((i : Int) ∈ P)
theorem OkP.nil (f : Fun) : OkP f [] := fun j hj => absurd hj (by simp)
theorem getD_app_left {α : Type} {P R : List α} {j : Nat} {d : α} (h : j < P.length) : (P ++ R).getD j d = P.getD j d := by
  rw [List.getD_eq_getElem?_getD, List.getD_eq_getElem?_getD, List.getElem?_append_left h]
theorem getD_app_at {α : Type} {P R : List α} {v d : α} : (P ++ v :: R).getD P.length d = v := by
  rw [List.getD_eq_getElem?_getD, List.getElem?_append_right (Nat.le_refl _)]; simp
theorem OkP.snoc {f : Fun} {P : List Int} {v : Int} (h : OkP f P) (hv : bad f P v = 0) : OkP f (P ++ [v]) := fun j hj => by
  rw [List.length_append] at hj
  by_cases e : j < P.length
  · rw [getD_app_left e, List.take_append_of_le_length (by omega)]; exact h j e
  · have : j = P.length := by simp at hj; omega
    subst this
    rw [getD_app_at, List.take_append_of_le_length (Nat.le_refl _), List.take_length]; exact hv
theorem once_hit {f : Fun} {P : List Int} {v : Int} (hp : P ++ [v] <+: makL f) (h : OkP f P) (hv : bad f P v ≠ 0) : onceF f = bad f P v := by
  obtain ⟨R, hR⟩ := hp
  have e : makL f = P ++ v :: R := by rw [← hR]; simp
  have hb : badG f (makL f) P.length = bad f P v := by unfold badG; rw [e, getD_app_at, List.take_append_of_le_length (Nat.le_refl _), List.take_length]
  have : firstF (badG f (makL f)) (makL f).length = bad f P v := by
    rw [← hb]
    refine firstF_hit (by rw [e]; simp) (fun j hj => ?_) (by rw [hb]; exact hv)
    unfold badG; rw [e, getD_app_left hj, List.take_append_of_le_length (by omega)]; exact h j hj
  unfold onceF; rw [this, if_pos hv]
theorem okP_zero {f : Fun} (h : OkP f (makL f)) : firstF (badG f (makL f)) (makL f).length = 0 := firstF_none fun j hj => h j hj
theorem mkB_pre {bs : List Blk} {k : Nat} (h : k ≤ bs.length) : mkB bs k <+: mkB bs bs.length := by
  unfold mkB; rw [List.take_length]
  conv => rhs; rw [← List.take_append_drop k bs]
  rw [List.flatMap_append]; exact List.prefix_append _ _
theorem mkI_pre {b : Blk} {k : Nat} (h : k ≤ b.Instrs.length) : mkI b k <+: mkI b b.Instrs.length := by
  unfold mkI; rw [List.take_length]
  conv => rhs; rw [← List.take_append_drop k b.Instrs]
  rw [List.flatMap_append]; exact List.prefix_append _ _
theorem mkO_pre {x : Ins} {k : Nat} (h : k ≤ x.Operands.length) : mkO x k <+: mkO x x.Operands.length := by
  unfold mkO; rw [List.take_length]
  conv => rhs; rw [← List.take_append_drop k x.Operands]
  rw [List.filter_append, List.map_append]; exact List.prefix_append _ _
theorem pre_app {P Q R : List Int} (h : Q <+: R) : P ++ Q <+: P ++ R := by obtain ⟨t, rfl⟩ := h; exact ⟨t, by simp⟩
theorem pre_1 {f : Fun} {k j : Nat} (hk : k < f.Blocks.length) : mkB f.Blocks k ++ (f.Blocks.getD k default).Params.take j <+: makL f := by
  refine List.IsPrefix.trans ?_ (mkB_pre (bs := f.Blocks) (k := k + 1) hk)
  rw [mkB_succ hk]
  exact pre_app ((List.take_prefix _ _).trans (List.prefix_append _ _))
theorem pre_2 {f : Fun} {k j : Nat} (hk : k < f.Blocks.length) (hj : j ≤ (f.Blocks.getD k default).Instrs.length) : mkB f.Blocks k ++ ((f.Blocks.getD k default).Params ++ mkI (f.Blocks.getD k default) j) <+: makL f := by
  refine List.IsPrefix.trans ?_ (mkB_pre (bs := f.Blocks) (k := k + 1) hk)
  rw [mkB_succ hk]
  exact pre_app (pre_app (mkI_pre hj))
theorem pre_3 {f : Fun} {k j i : Nat} (hk : k < f.Blocks.length) (hj : j < (f.Blocks.getD k default).Instrs.length) (hi : i ≤ ((f.Blocks.getD k default).Instrs.getD j default).Operands.length) :
    mkB f.Blocks k ++ ((f.Blocks.getD k default).Params ++ mkI (f.Blocks.getD k default) j) ++ mkO ((f.Blocks.getD k default).Instrs.getD j default) i <+: makL f := by
  refine List.IsPrefix.trans ?_ (pre_2 hk (j := j + 1) hj)
  rw [mkI_succ hj, List.append_assoc, List.append_assoc, ]
  exact pre_app (pre_app (pre_app (mkO_pre hi)))
theorem oneI_bad {f : Fun} {P : List Int} {v : Int} : oneI f v (memP P) = bad f P v := by
  unfold oneI bad
  by_cases h : valB f v = false
  · rw [if_pos h, if_pos h]
  · rw [if_neg h, if_neg h]
    have h2 := idx_ok (f := f) (v := v) (by simpa using h)
    have e : ((v.toNat : Nat) : Int) = v := by omega
    unfold memP; rw [e]; simp
theorem oneM_snoc {f : Fun} {P : List Int} {v : Int} (h : bad f P v = 0) (i : Nat) : oneM f v (memP P) i = memP (P ++ [v]) i := by
  have hv : valB f v = true := by
    unfold bad at h
    split at h
    · cases h
    · rename_i h2; simpa using h2
  have h2 := idx_ok (f := f) (v := v) hv
  unfold oneM memP
  rw [hv, Bool.true_and, Bool.eq_iff_iff]
  simp only [Bool.or_eq_true, decide_eq_true_eq, List.mem_append, List.mem_singleton]
  constructor
  · rintro (h | h)
    · exact .inl h
    · exact .inr (by omega)
  · rintro (h | h)
    · exact .inl h
    · exact .inr (by omega)
/-- Pigeonhole: as many as there are. -/
theorem nodup_of {f : Fun} {P : List Int} (h : OkP f P) : P.Nodup ∧ ∀ v ∈ P, 0 ≤ v ∧ v < f.Values.length := by
  constructor
  · rw [List.nodup_iff_pairwise_ne, List.pairwise_iff_getElem]
    intro i j hi hj hij e
    have := h j hj
    unfold bad at this
    split at this
    · cases this
    · split at this
      · cases this
      · rename_i h3
        apply h3
        rw [List.getD_eq_getElem?_getD, List.getElem?_eq_getElem hj, Option.getD_some, ← e]
        exact List.mem_take_iff_getElem.2 ⟨i, by omega, rfl⟩
  · intro v hv
    obtain ⟨j, hj, rfl⟩ := List.getElem_of_mem hv
    have := h j hj
    unfold bad at this
    split at this
    · cases this
    · rename_i h2
      have := idx_ok (f := f) (v := P.getD j default) (by simpa using h2)
      rwa [List.getD_eq_getElem?_getD, List.getElem?_eq_getElem hj, Option.getD_some] at this
theorem pig : ∀ (n : Nat) (P : List Int), P.Nodup → (∀ v ∈ P, 0 ≤ v ∧ v < (n : Int)) → P.length ≤ n ∧ (P.length = n → ∀ i : Nat, i < n → (i : Int) ∈ P)
  | 0, P, _, h => by
    have : P = [] := List.eq_nil_iff_forall_not_mem.2 fun v hv => by have := h v hv; omega
    subst this; exact ⟨Nat.le_refl _, fun _ i hi => absurd hi (by omega)⟩
  | n + 1, P, hn, h => by
    have ih := pig n (P.erase (n : Int)) (hn.erase _) (fun v hv => by
      have h1 := h v (List.mem_of_mem_erase hv)
      have h2 : v ≠ (n : Int) := fun e => by subst e; exact (List.Nodup.not_mem_erase hn) hv
      omega)
    by_cases hm : (n : Int) ∈ P
    · have hl := List.length_erase_of_mem hm
      have hp : 0 < P.length := List.length_pos_of_mem hm
      refine ⟨by omega, fun e i hi => ?_⟩
      by_cases e2 : i = n
      · subst e2; exact hm
      · exact List.mem_of_mem_erase (ih.2 (by omega) i (by omega))
    · rw [List.erase_of_not_mem hm] at ih
      exact ⟨by omega, fun e => by omega⟩
theorem anyFalse {f : Fun} {P : List Int} (h : OkP f P) : anyB (fun i => false == memP P i) f.Values.length = decide (P.length < f.Values.length) := by
  obtain ⟨h1, h2⟩ := nodup_of h
  obtain ⟨h3, h4⟩ := pig _ P h1 h2
  by_cases e : P.length < f.Values.length
  · rw [decide_eq_true e]
    apply Classical.byContradiction
    intro hne
    have hall : ∀ i, i < f.Values.length → (i : Int) ∈ P := fun i hi => Classical.byContradiction fun hm => hne (anyB_hit (k := i) hi (by unfold memP; simpa using hm))
    have : f.Values.length ≤ P.length := by
      have hs : ((List.range f.Values.length).map (fun i : Nat => (i : Int))).length ≤ P.length := by
        apply List.Nodup.length_le_of_subset
        · rw [List.nodup_iff_pairwise_ne, List.pairwise_map]
          exact (List.pairwise_lt_range).imp fun {a b} hab => by omega
        · intro v hv
          obtain ⟨i, hi, rfl⟩ := List.mem_map.1 hv
          exact hall i (List.mem_range.1 hi)
      simpa using hs
    omega
  · rw [decide_eq_false e]
    refine anyB_none fun i hi => ?_
    have := h4 (by omega) i hi
    unfold memP; simpa using this
end Go.Proofs.Ytdilfbdfefppbaa
