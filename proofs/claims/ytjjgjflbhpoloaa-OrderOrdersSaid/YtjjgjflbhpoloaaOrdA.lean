/- Moves that are to be done at once, one by one: cells, what a put does, what holds on the way. Plain. -/
import Derived.Test.YtjjgjflbhpoloaaPlc
set_option linter.unusedVariables false
set_option linter.unusedSimpArgs false
namespace Go.Proofs.Ytjjgjflbhpoloaa
open Go Go.Abs Go.RowKit
theorem reg_rng {m : Mch} (hm : machF m = 0) (c : Int) : 0 ≤ regF m c ∧ regF m c ≤ 10 := reg_range hm c.toNat
theorem end_cases {m : Mch} (hm : machF m = 0) {fr : Nat} {p : Plc} (h : endF m fr p = true) : (p.Kind = 1 ∧ 0 ≤ p.Class ∧ p.Class < 2 ∧ 0 ≤ p.N ∧ p.N ≤ regF m p.Class) ∨ (p.Kind = 2 ∧ p.Class = 0 ∧ 0 ≤ p.N ∧ p.N < fr) := by
 have hr := reg_rng hm p.Class
 unfold endF placeF at h
 split at h
 ·omega
 ·split at h
  ·simp only [decide_eq_true_eq] at h; omega
  ·split at h
   ·simp only [decide_eq_true_eq] at h; omega
   ·cases h
theorem place_cases {m : Mch} {fr : Nat} {p : Plc} : placeF m fr p = true ↔ (p.Kind = 1 ∧ 0 ≤ p.Class ∧ p.Class < 2 ∧ 0 ≤ p.N ∧ p.N < regF m p.Class) ∨ (p.Kind = 2 ∧ p.Class = 0 ∧ 0 ≤ p.N ∧ p.N < fr) := by
 unfold placeF
 split
 ·simp only [decide_eq_true_eq]; omega
 ·split
  ·simp only [decide_eq_true_eq]; omega
  ·constructor
   ·intro h; cases h
   ·omega
theorem end_plOk {m : Mch} (hm : machF m = 0) {fr : Nat} {p : Plc} (h : endF m fr p = true) : PlOk fr p := by
 have hr := reg_rng hm p.Class
 rcases end_cases hm h with h | h
 ·exact .inl ⟨h.1, h.2.1, h.2.2.1, h.2.2.2.1, by omega⟩
 ·exact .inr h
theorem celF_inj {m : Mch} (hm : machF m = 0) {fr : Nat} {p q : Plc} (hp : endF m fr p = true) (hq : endF m fr q = true) (h : celF p = celF q) : p = q := by
 have h1 := end_plOk hm hp
 have h2 := end_plOk hm hq
 obtain ⟨a, b, c⟩ := p
 obtain ⟨a', b', c'⟩ := q
 unfold PlOk at h1 h2
 unfold celF at h
 simp only at h1 h2 h
 rcases h1 with h1 | h1 <;> rcases h2 with h2 | h2
 ·rw [if_neg (by omega), if_neg (by omega)] at h
  have e1 : a = a' := by omega
  have e2 : b = b' := by omega
  have e3 : c = c' := by omega
  rw [e1, e2, e3]
 ·rw [if_neg (by omega), if_pos (by omega)] at h; omega
 ·rw [if_pos (by omega), if_neg (by omega)] at h; omega
 ·rw [if_pos (by omega), if_pos (by omega)] at h
  have e1 : a = a' := by omega
  have e2 : b = b' := by omega
  have e3 : c = c' := by omega
  rw [e1, e2, e3]
@[reducible] def spP (fr : Nat) : Plc := ⟨2, 0, fr⟩
@[reducible] def scP (m : Mch) (c : Int) : Plc := ⟨1, c, regF m c⟩
section
variable {m : Mch} {fr : Nat}
theorem place_end {p : Plc} (h : placeF m fr p = true) : endF m (fr + 1 : Nat) p = true := by
 unfold endF
 split
 ·rfl
 ·rw [place_cases] at h ⊢; omega
theorem sp_end : endF m (fr + 1 : Nat) (spP fr) = true := by
 unfold endF
 split
 ·rfl
 ·exact place_cases.2 (.inr ⟨rfl, rfl, Int.natCast_nonneg _, by show (fr : Int) < ((fr + 1 : Nat) : Int); omega⟩)
theorem sc_end {c : Int} (hc : 0 ≤ c ∧ c < 2) : endF m (fr + 1 : Nat) (scP m c) = true := if_pos ⟨rfl, hc.1, hc.2, rfl⟩
theorem sp_not : placeF m fr (spP fr) = false := by
 cases h : placeF m fr (spP fr) with
 | false => rfl
 | true =>
  rcases place_cases.1 h with h | h
  ·have := h.1; simp at this
  ·have := h.2.2.2; simp at this
theorem sc_not {c : Int} : placeF m fr (scP m c) = false := by
 cases h : placeF m fr (scP m c) with
 | false => rfl
 | true =>
  rcases place_cases.1 h with h | h
  ·have := h.2.2.2.2; simp at this
  ·have := h.1; simp at this
def ex1 (σ : Nat → Int) (x : Mov) (c : Nat) : Int := if c = celF x.To then σ (celF x.From) else σ c
def exL (σ : Nat → Int) (l : List Mov) : Nat → Int := l.foldl ex1 σ
theorem exL_app {σ : Nat → Int} {a b : List Mov} : exL σ (a ++ b) = exL (exL σ a) b := List.foldl_append
theorem exL_snoc {σ : Nat → Int} {a : List Mov} {x : Mov} : exL σ (a ++ [x]) = ex1 (exL σ a) x := by rw [exL_app]; rfl
def putL (m : Mch) (f t : Plc) (c : Int) : List Mov := if f.Kind = 2 ∧ t.Kind = 2 then [⟨f, scP m c⟩, ⟨scP m c, t⟩] else [⟨f, t⟩]
theorem putL_len {f t : Plc} {c : Int} : (putL m f t c).length ≤ 2 := by unfold putL; split <;> simp
theorem putL_ex {σ : Nat → Int} {f t : Plc} {c : Int} {d : Nat} (hd : d ≠ celF (scP m c)) : exL σ (putL m f t c) d = if d = celF t then σ (celF f) else σ d := by
 unfold putL
 split
 ·show ex1 (ex1 σ ⟨f, scP m c⟩) ⟨scP m c, t⟩ d = _
  unfold ex1
  simp only [if_neg hd, if_true]
 ·rfl
def MvOk (m : Mch) (fr : Nat) (x : Mov) : Prop := endF m (fr + 1 : Nat) x.From = true ∧ endF m (fr + 1 : Nat) x.To = true ∧ ¬ (x.From.Kind = 2 ∧ x.To.Kind = 2) ∧ (x.From.Kind = 1 → x.To.Kind = 1 → x.From.Class = x.To.Class)
theorem putL_ok {f t : Plc} {c : Int} (hf : endF m (fr + 1 : Nat) f = true) (ht : endF m (fr + 1 : Nat) t = true) (hc : 0 ≤ c ∧ c < 2) (hk : f.Kind = 1 → t.Kind = 1 → f.Class = t.Class) : ∀ x, x ∈ putL m f t c → MvOk m fr x := by
 intro x hx
 unfold putL at hx
 split at hx
 ·rename_i h2
  simp only [List.mem_cons, List.not_mem_nil, or_false] at hx
  rcases hx with rfl | rfl
  ·exact ⟨hf, sc_end hc, fun h => by have := h.2; simp at this, fun h => by simp only at h; omega⟩
  ·exact ⟨sc_end hc, ht, fun h => by have := h.1; simp at this, fun _ h => by simp only at h; omega⟩
 ·rename_i h2
  rw [List.mem_singleton] at hx
  subst hx
  exact ⟨hf, ht, h2, hk⟩
end
def frB (L : List Mov) (x : Mov) : Bool := !(L.any fun y => y.From == x.To)
theorem frB_iff {L : List Mov} {x : Mov} : frB L x = true ↔ ∀ y, y ∈ L → y.From ≠ x.To := by
 unfold frB
 simp
def frE (L : List Mov) : Bool := L.any (frB L)
theorem frE_iff {L : List Mov} : frE L = true ↔ ∃ x, x ∈ L ∧ frB L x = true := by unfold frE; rw [List.any_eq_true]
theorem sub_all {α : Type} [DecidableEq α] : ∀ {A B : List α}, A.Nodup → (∀ a, a ∈ A → a ∈ B) → B.length ≤ A.length → ∀ b, b ∈ B → b ∈ A
 | [], B, _, _, hl, b, hb => by
  simp only [List.length_nil, Nat.le_zero_eq, List.length_eq_zero_iff] at hl
  subst hl; cases hb
 | a :: A, B, hn, hs, hl, b, hb => by
  obtain ⟨h1, h2⟩ := List.nodup_cons.1 hn
  have ha := hs a List.mem_cons_self
  by_cases e : b = a
  ·rw [e]; exact List.mem_cons_self
  ·refine List.mem_cons_of_mem _ (sub_all (B := B.erase a) h2 (fun c hc => ?_) ?_ b ?_)
   ·exact (List.mem_erase_of_ne (fun e => h1 (by rw [← e]; exact hc))).2 (hs c (List.mem_cons_of_mem _ hc))
   ·rw [List.length_erase_of_mem ha]; simp only [List.length_cons] at hl; omega
   ·exact (List.mem_erase_of_ne e).2 hb
structure DoI (m : Mch) (fr n : Nat) (σ w : Nat → Int) (K : Plc → Int) (L out : List Mov) : Prop where
 to : ∀ y, y ∈ L → placeF m fr y.To = true
 tos : (L.map (·.To)).Nodup
 frm : ∀ y, y ∈ L → placeF m fr y.From = true ∨ y.From = spP fr
 cl : ∀ y, y ∈ L → (0 ≤ K y.To ∧ K y.To < 2) ∧ (y.From.Kind = 1 → y.From.Class = K y.To) ∧ (y.To.Kind = 1 → y.To.Class = K y.To)
 ok : ∀ x, x ∈ out → MvOk m fr x
 src : ∀ y, y ∈ L → exL σ out (celF y.From) = w (celF y.To)
 dst : ∀ c, c < 22 + fr → (∀ q, q = 0 ∨ q = 1 → c ≠ celF (scP m q)) → (∀ y, y ∈ L → celF y.To ≠ c) → exL σ out c = w c
 len : out.length + 4 * L.length ≤ 4 * n + (if frE L = true then 2 else 0)
section
variable {m : Mch} {fr n : Nat} {σ w : Nat → Int} {K : Plc → Int} {L out : List Mov}
theorem DoI.fend (I : DoI m fr n σ w K L out) {y : Mov} (hy : y ∈ L) : endF m (fr + 1 : Nat) y.From = true := by
 rcases I.frm y hy with h | h
 ·exact place_end h
 ·rw [h]; exact sp_end
theorem cel_sc (hm : machF m = 0) {p : Plc} (hp : endF m (fr + 1 : Nat) p = true) (hn : ∀ c, p ≠ scP m c) {q : Int} (hq : q = 0 ∨ q = 1) : celF p ≠ celF (scP m q) := fun e => hn q (celF_inj hm hp (sc_end (by omega)) e)
theorem place_sc {p : Plc} (h : placeF m fr p = true) : ∀ c, p ≠ scP m c := fun c e => by rw [e, sc_not] at h; cases h
theorem DoI.fsc (I : DoI m fr n σ w K L out) (hm : machF m = 0) {y : Mov} (hy : y ∈ L) {q : Int} (hq : q = 0 ∨ q = 1) : celF y.From ≠ celF (scP m q) :=
 cel_sc hm (I.fend hy) (fun c e => by
  rcases I.frm y hy with h | h
  ·exact place_sc h c e
  ·rw [h] at e; injection e with e; simp at e) hq
theorem cel_lt {p : Plc} (hm : machF m = 0) (h : placeF m fr p = true) : celF p < 22 + fr := by
 have hr := reg_rng hm p.Class
 unfold celF
 rcases place_cases.1 h with h | h
 ·rw [if_neg (by omega)]; omega
 ·rw [if_pos h.1]; omega
theorem DoI.free (I : DoI m fr n σ w K L out) (hm : machF m = 0) {i : Nat} (hi : i < L.length) {x : Mov} (hxi : L[i] = x) (hf : frB L x = true) :
  DoI m fr n σ w K (L.eraseIdx i) (out ++ putL m x.From x.To (K x.To)) := by
 have hx : x ∈ L := by rw [← hxi]; exact List.getElem_mem hi
 have hsub : ∀ y, y ∈ L.eraseIdx i → y ∈ L := fun y hy => List.mem_of_mem_eraseIdx hy
 have hf' := frB_iff.1 hf
 have hcl := I.cl x hx
 have hq : K x.To = 0 ∨ K x.To = 1 := by omega
 have hl : (L.eraseIdx i).length = L.length - 1 := List.length_eraseIdx_of_lt hi
 refine ⟨fun y hy => I.to y (hsub y hy), ?_, fun y hy => I.frm y (hsub y hy), fun y hy => I.cl y (hsub y hy), fun z hz => ?_, fun y hy => ?_, fun c hc hs ht => ?_, ?_⟩
 ·exact List.Nodup.sublist ((List.eraseIdx_sublist L i).map _) I.tos
 ·rcases List.mem_append.1 hz with hz | hz
  ·exact I.ok z hz
  ·exact putL_ok (I.fend hx) (place_end (I.to x hx)) hcl.1 (fun h1 h2 => (hcl.2.1 h1).trans (hcl.2.2 h2).symm) z hz
 ·rw [exL_app, putL_ex (I.fsc hm (hsub y hy) hq), if_neg (fun e => hf' y (hsub y hy) (celF_inj hm (I.fend (hsub y hy)) (place_end (I.to x hx)) e))]
  exact I.src y (hsub y hy)
 ·rw [exL_app, putL_ex (hs _ hq)]
  by_cases e : c = celF x.To
  ·rw [if_pos e, e]; exact I.src x hx
  ·rw [if_neg e]
   refine I.dst c hc hs fun y hy ey => ?_
   obtain ⟨j, hj, rfl⟩ := List.mem_iff_getElem.1 hy
   refine ht _ (List.mem_eraseIdx_iff_getElem.2 ⟨j, hj, fun h => e ?_, rfl⟩) ey
   subst h
   rw [← ey, hxi]
 ·have h1 := I.len
  have h2 : frE L = true := frE_iff.2 ⟨x, hx, hf⟩
  rw [if_pos h2] at h1
  have h3 := putL_len (m := m) (f := x.From) (t := x.To) (c := K x.To)
  rw [List.length_append]
  split <;> omega
def trnL (fr : Nat) (p : Plc) (L : List Mov) : List Mov := L.map fun y => if y.From = p then ⟨spP fr, y.To⟩ else y
theorem trn_to {p : Plc} : (trnL fr p L).map (·.To) = L.map (·.To) := by
 unfold trnL
 rw [List.map_map]
 congr 1
 funext y
 show (if y.From = p then (⟨spP fr, y.To⟩ : Mov) else y).To = y.To
 split <;> rfl
theorem mem_trn {p : Plc} {z : Mov} (h : z ∈ trnL fr p L) : ∃ y, y ∈ L ∧ z.To = y.To ∧ ((y.From = p ∧ z.From = spP fr) ∨ (y.From ≠ p ∧ z = y)) := by
 unfold trnL at h
 obtain ⟨y, hy, rfl⟩ := List.mem_map.1 h
 by_cases e : y.From = p
 ·rw [if_pos e]; exact ⟨y, hy, rfl, .inl ⟨e, rfl⟩⟩
 ·rw [if_neg e]; exact ⟨y, hy, rfl, .inr ⟨e, rfl⟩⟩
theorem DoI.noSp (I : DoI m fr n σ w K L out) (h : frE L = false) : ∀ y, y ∈ L → y.From ≠ spP fr := by
 intro y hy e
 have h1 := sub_all (A := L.map (·.To)) (B := L.map (·.From)) I.tos (fun a ha => ?_) (by simp) y.From (List.mem_map.2 ⟨y, hy, rfl⟩)
 ·obtain ⟨z, hz, h2⟩ := List.mem_map.1 h1
  have := I.to z hz
  rw [h2, e, sp_not] at this
  cases this
 ·obtain ⟨z, hz, rfl⟩ := List.mem_map.1 ha
  refine Classical.byContradiction fun hn => ?_
  have : frE L = true := frE_iff.2 ⟨z, hz, frB_iff.2 fun u hu e => hn (List.mem_map.2 ⟨u, hu, e⟩)⟩
  rw [h] at this; cases this
theorem DoI.turn (I : DoI m fr n σ w K L out) (hm : machF m = 0) (h : frE L = false) {x : Mov} (hx : x ∈ L) {c : Int} (hc : 0 ≤ c ∧ c < 2) :
  DoI m fr n σ w K (trnL fr x.To L) (out ++ putL m x.To (spP fr) c) ∧ frE (trnL fr x.To L) = true := by
 have hns := I.noSp h
 have hpx := I.to x hx
 have hq : c = 0 ∨ c = 1 := by omega
 have hfe : frE (trnL fr x.To L) = true := by
  have h1 : x.To ∈ (trnL fr x.To L).map (·.To) := by rw [trn_to]; exact List.mem_map.2 ⟨x, hx, rfl⟩
  obtain ⟨z, hz, h2⟩ := List.mem_map.1 h1
  refine frE_iff.2 ⟨z, hz, frB_iff.2 fun u hu e => ?_⟩
  obtain ⟨y, hy, h3, h4⟩ := mem_trn hu
  rw [h2] at e
  rcases h4 with ⟨_, h4⟩ | ⟨h4, rfl⟩
  ·rw [h4] at e
   rw [← e, sp_not] at hpx; cases hpx
  ·exact h4 e
 have hspc : celF (spP fr) = 22 + fr := by rw [celF_slot rfl]; rfl
 have hpsc : ∀ (d : Nat), d < 22 + fr → (∀ q, q = 0 ∨ q = 1 → d ≠ celF (scP m q)) → exL σ (out ++ putL m x.To (spP fr) c) d = exL σ out d := fun d hd hs => by
  rw [exL_app, putL_ex (hs c hq), if_neg (by omega)]
 refine ⟨⟨fun z hz => ?_, by rw [trn_to]; exact I.tos, fun z hz => ?_, fun z hz => ?_, fun z hz => ?_, fun z hz => ?_, fun d hd hs ht => ?_, ?_⟩, hfe⟩
 ·obtain ⟨y, hy, h3, _⟩ := mem_trn hz
  rw [h3]; exact I.to y hy
 ·obtain ⟨y, hy, h3, h4⟩ := mem_trn hz
  rcases h4 with ⟨_, h4⟩ | ⟨_, rfl⟩
  ·exact .inr h4
  ·exact I.frm z hy
 ·obtain ⟨y, hy, h3, h4⟩ := mem_trn hz
  rcases h4 with ⟨_, h4⟩ | ⟨_, rfl⟩
  ·rw [h3]
   obtain ⟨h5, h6, h7⟩ := I.cl y hy
   exact ⟨h5, fun h => by rw [h4] at h; simp at h, h7⟩
  ·exact I.cl z hy
 ·rcases List.mem_append.1 hz with hz | hz
  ·exact I.ok z hz
  ·exact putL_ok (place_end hpx) sp_end hc (fun _ h => by simp at h) z hz
 ·obtain ⟨y, hy, h3, h4⟩ := mem_trn hz
  rw [h3, ← I.src y hy]
  rcases h4 with ⟨h5, h4⟩ | ⟨h5, rfl⟩
  ·rw [h4, exL_app, putL_ex (cel_sc hm sp_end (fun c e => by injection e with e; simp at e) hq), if_pos rfl, h5]
  ·have hpl : placeF m fr z.From = true := by
    rcases I.frm z hy with h6 | h6
    ·exact h6
    ·exact absurd h6 (hns z hy)
   exact hpsc _ (cel_lt hm hpl) fun q hq => I.fsc hm hy hq
 ·rw [hpsc d hd hs]
  refine I.dst d hd hs fun y hy e => ?_
  have h1 : y.To ∈ (trnL fr x.To L).map (·.To) := by rw [trn_to]; exact List.mem_map.2 ⟨y, hy, rfl⟩
  obtain ⟨z, hz, h2⟩ := List.mem_map.1 h1
  exact ht z hz (by rw [h2]; exact e)
 ·have h1 := I.len
  rw [h, if_neg (by simp)] at h1
  have h3 := putL_len (m := m) (f := x.To) (t := spP fr) (c := c)
  have h4 : (trnL fr x.To L).length = L.length := by unfold trnL; simp
  rw [if_pos hfe, List.length_append, h4]
  omega
end
end Go.Proofs.Ytjjgjflbhpoloaa
